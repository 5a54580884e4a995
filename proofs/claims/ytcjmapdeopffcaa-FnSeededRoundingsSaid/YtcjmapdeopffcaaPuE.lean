/- Sending from one node to another one: the walk of push. -/
import Derived.Test.YtcjmapdeopffcaaHi
namespace Go.Proofs.Ytcjmapdeopffcaa
open Go.RowKit Flo
set_option linter.unusedVariables false



set_option maxRecDepth 100000 in
set_option maxHeartbeats 8000000 in
theorem push_any (K : Nat) (A : Option Addr) (c lo hi a b : Nat) (L : Int) (r : Nat → Nat → Int) (w : World) (hM : Mat w lo hi A K c K r) (hhi : hi ≤ w.heap.size) (hK : K ≤ 18) (h0 : ∀ u v, u < K → v < K → 0 ≤ r u v ∧ r u v + r v u ≤ 1000000) (ha : a < K) (hb : b < K) (hab : a ≠ b) (hL0 : 0 ≤ L) (hL : L ≤ 1000000) :
    Calls Try.prog 95 #[.slice A K c, .int .i64 a, .int .i64 b, .int .i64 L] w fun e w' => ∃ (s : Int), e = .returned (.int .i64 s) ∧ 0 ≤ s ∧ s ≤ L ∧ ∃ (r' : Nat → Nat → Int), Mat w' lo hi A K c K r' ∧ Sent K r r' a b s ∧ Most K r' a b s L ∧ Chg lo hi w w' := by
  have HM := Lib.hid hM
  have H0 := Lib.hid h0
  have HAB := Lib.hid hab
  have HS : Hid (Sent K r r a b 0) := Lib.hid (Sent.none fun u v hu hv => (h0 u v hu hv).1)
  have HC := Lib.hid (Chg.refl lo hi w)
  obtain ⟨i0, hi0, hz0, hz1, hz2⟩ := info_parts Try.infoInt
  clear hM h0 hab
  go_enter Try.func95, Try.ntmps95
  go_wp2_with fail
  go_loopw [9] (fun sv wr => ∃ (s : Int) (r1 : Nat → Nat → Int), sv = .int .i64 s ∧ 0 ≤ s ∧ s ≤ L ∧ Hid (Mat wr lo hi A K c K r1) ∧ Hid (Sent K r r1 a b s) ∧ Hid (Chg lo hi w wr) ∧ hi ≤ wr.heap.size) (fun sv _ => (L - intOf sv).toNat)
  case atStart => exact ⟨0, r, rfl, by omega, hL0, HM, HS, HC, hhi⟩
  case round =>
    clear HM HS HC hhi
    obtain ⟨s, r1, rfl, hs0, hsL, HM, HS, HC, hz⟩ := hrel
    have H1 := Lib.hid (fun u v (hu : u < K) (hv : v < K) => push_bd HS.out H0.out hu hv)
    by_cases hlt : s < L
    case neg =>
      go_wp2
      go_ret
      exact ⟨s, rfl, hs0, hsL, r1, HM.out, HS.out, .inl (by omega), HC.out⟩
    case pos =>
      obtain ⟨T, hT⟩ : ∃ T, wr.heap.size = T := ⟨_, rfl⟩
      obtain ⟨W, HW⟩ : ∃ W, Hid (W = wr) := ⟨_, Lib.hid rfl⟩
      have HT : Hid (W.heap.size = T) := Lib.hid (by rw [HW.out]; exact hT)
      rw [← HW.out] at HM HC
      go_wp2_with (at_make; refine wpList_make_full _ rfl _ _ 24 rfl T 3 i0 _ 1 Try.underlying24 hi0 hz0 hz1 .i64 .i64 _ _ K rfl rfl rfl rfl (by rw [hz2]; omega) (by unfold maxLen; omega) (by omega) ?_; intro w1 hown hg)
      rw [map_replicate0, rep_lst, hT] at hown
      have hb1 : Below T W w1 := by
        rw [HW.out]
        exact (Below.refl _ _).grown hg (by omega) (by simp)
      have hz1' : T + 1 ≤ w1.heap.size := by have := (World.ownsRow.lt hown T rfl).2; omega
      have HV : Hid (Vec w1 T (T + 1) (some ⟨T, 0, none⟩) K K (fun v => if v < 0 then -1 else 0)) := Lib.hid (vec_fn (g := fun _ => 0) ⟨hown, (fun k hk => by simp [rowOf] at hk; omega), by omega⟩ fun k _ => by rw [if_neg (by omega)])
      have HB1 := Lib.hid hb1
      have hzW : hi ≤ W.heap.size := by rw [HW.out]; exact hz
      clear hown hg hi0 hz0 hz1 hz2 hb1 hT hz HW
      go_loopw [27] (fun jv wr2 => ∃ j : Nat, j ≤ K ∧ jv = .int .i64 j ∧ Hid (Vec wr2 T (T + 1) (some ⟨T, 0, none⟩) K K (fun v => if v < j then -1 else 0)) ∧ Hid (Below T W wr2) ∧ T + 1 ≤ wr2.heap.size) (fun jv _ => K - (intOf jv).toNat)
      case atStart => exact ⟨0, Nat.zero_le _, rfl, HV, HB1, hz1'⟩
      case round =>
        clear HV HB1 hz1'
        obtain ⟨j, hj, rfl, HV, HB, hz2⟩ := hrel
        by_cases hjk : j < K
        case pos =>
          obtain ⟨gg, eg, cg, cf, s1, s2, s3, back⟩ := vec_cell HV.out hjk
          obtain rfl : T = gg := congrArg Addr.block (Option.some.inj eg)
          have HV2 := Lib.hid (vec_fn (back (-1)) (g' := fun v => if v < j + 1 then -1 else 0) fun v _ => by
            by_cases e : v = j
            · rw [if_pos e, if_pos (by omega)]
            · rw [if_neg e]
              by_cases h2 : v < j
              · rw [if_pos h2, if_pos (by omega)]
              · rw [if_neg h2, if_neg (by omega)])
          have HB2 := Lib.hid (HB.out.setCell (p := ⟨T, j, none⟩) (Nat.le_refl _) (.int .i64 (-1)))
          have hz3 : T + 1 ≤ (wr.setCell ⟨T, j, none⟩ (.int .i64 (-1))).heap.size := by simpa using hz2
          clear back HV eg s1 s2 s3
          go_wp2
          go_roundw
          case rel => exact ⟨j + 1, by omega, by go_num, HV2, HB2, hz3⟩
          case measure => simp [intOf]; omega
        case neg =>
          obtain ⟨gg, eg, cg, cf, s1, s2, s3, back⟩ := vec_cell HV.out ha
          obtain rfl : T = gg := congrArg Addr.block (Option.some.inj eg)
          have HV2 := Lib.hid (vec_fn (back (a : Int)) (g' := fun v => if v = a then (a : Int) else if v < K then -1 else 0) fun v hv => by
            by_cases e : v = a
            · rw [if_pos e, if_pos e]
            · rw [if_neg e, if_neg e, if_pos hv, if_pos (by omega)])
          have HB2 := Lib.hid (HB.out.setCell (p := ⟨T, a, none⟩) (Nat.le_refl _) (.int .i64 (a : Int)))
          have hz3 : T + 1 ≤ (wr.setCell ⟨T, a, none⟩ (.int .i64 (a : Int))).heap.size := by simpa using hz2
          obtain ⟨w4, hw4⟩ : ∃ w4, w4 = wr.setCell ⟨T, a, none⟩ (.int .i64 (a : Int)) := ⟨_, rfl⟩
          have HW4 := Lib.hid hw4
          clear back HV eg s1 s2 s3
          go_wp2_with fail
          rw [← hw4] at HV2 HB2 hz3 ⊢
          clear hw4
          have b4 := below_new w4 (.cells #[.int .i64 (a : Int)] 3)
          have hq0 := QS.one (w := w4) (B := T + 1) (a : Int) hz3
          rw [show w4.heap.size = wr.heap.size by rw [HW4.out]; simp] at hq0
          have HQ := Lib.hid hq0
          clear hq0 HW4
          have HV5 := Lib.hid (HV2.out.below b4)
          have HB5 := Lib.hid (HB2.out.trans (b4.mono (by omega)))
          have hz5 := Nat.le_trans hz3 b4.size
          have HBf0 : Hid (Bfs K r1 (fun v => v == a) (fun _ => a) [a] 0) := Lib.hid (Bfs.start ha)
          have HBk0 := Lib.hid (BkI.start (K := K) (a := a))
          generalize (fun v => if v = a then (a : Int) else if v < K then -1 else 0) = g0 at *
          clear hz3 HV2 HB2 b4 hz2
          go_loopw [12] (fun qv wr3 => ∃ (k n cD : Nat) (D : Option Addr) (seen : List Nat) (par : Nat → Nat) (g : Nat → Int), qv = .slice D n cD ∧ n + k = seen.length ∧ seen.length ≤ K ∧ Hid (QS wr3 (T + 1) D n cD (nums (seen.drop k))) ∧ Hid (Vec wr3 T (T + 1) (some ⟨T, 0, none⟩) K K g) ∧ Hid (Bfs K r1 (fun v => v == a) par seen k) ∧ Hid (BkI K g par seen) ∧ Hid (Below T W wr3) ∧ T + 1 ≤ wr3.heap.size) (fun qv wr3 => ((K : Int) + (lenQ qv : Int) - seenAt wr3 T K).toNat)
          case atStart => exact ⟨0, 1, 1, _, [a], _, g0, rfl, rfl, by simp; omega, HQ, HV5, HBf0, HBk0, HB5, hz5⟩
          case round =>
            clear HQ HV5 HBf0 HBk0 HB5 hz5
            obtain ⟨k, n, cD, D, seen, par, g, rfl, hn, hsl, HQ, HV, HBf, HBk, HB, hz3⟩ := hrel
            obtain ⟨gg, eg, cgb, _, _, _, _, _⟩ := vec_cell HV.out hb
            obtain rfl : T = gg := congrArg Addr.block (Option.some.inj eg)
            by_cases hbs : b ∈ seen
            case pos =>
              by_cases hn0 : 0 < n
              case pos =>
                obtain ⟨i0, hi0, he⟩ := mem_sn.1 hbs
                obtain ⟨l0, hl0⟩ := HBf.out.way i0 i0 (Nat.le_refl _) hi0
                have HP : Hid (PathI K r1 a g par seen k i0 l0) := Lib.hid ⟨HBf.out, HBk.out, hl0, hi0⟩
                have HE := Lib.hid he
                have HW0 := Lib.hid hl0
                have HZ3 := Lib.hid hz3
                have hgb0 : 0 ≤ g b := (BkI.ge HBk.out hb).1 hbs
                clear HQ HBf HBk hl0 he hbs
                generalize g b = gb at *
                go_wp2_with fail
                clear hgb0 cgb
                go_loopw [16, 17] (fun xv vv wr5 => ∃ (i : Nat) (x : Int) (l1 l2 : List Nat), i < seen.length ∧ xv = .int .i64 x ∧ vv = .int .i64 (sn seen i) ∧ 1 ≤ x ∧ x ≤ L - s ∧ Hid (l0 = l1 ++ l2 ∧ Here par seen i0 l1 i) ∧ Hid (Flo.Way (fun v => v == a) par seen i l2) ∧ Hid (Cap r1 par seen l1 x) ∧ wr = wr5) (fun _ vv _ => plc seen (intOf vv).toNat)
                case atStart => exact ⟨i0, L - s, [], l0, hi0, rfl, by rw [HE.out], by omega, by omega, Lib.hid ⟨rfl, Here.start⟩, HW0, Lib.hid Cap.nil, rfl⟩
                case round =>
                  obtain ⟨i, x, l1, l2, hi', rfl, rfl, hx1, hx2, hl, hw, hcap, rfl⟩ := hrel
                  by_cases hr : sn seen i = a
                  case neg =>
                    obtain ⟨j, l', e1, hji, eg, ep, hw2, hjk, hik, hne, hpos⟩ := HP.out.no hi' hw.out hr
                    obtain ⟨gg, eg', cg, _⟩ := vec_cell HV.out hik
                    obtain rfl : T = gg := congrArg Addr.block (Option.some.inj eg')
                    rw [eg] at cg
                    obtain ⟨g1, gr, cr, rfl, hrow⟩ := push_row HM.out HT.out hjk
                    obtain ⟨c1, c2⟩ := hrow _ HB.out
                    have c3 := c2 _ hik
                    have hd : ((sn seen i : Int) != (a : Int)) = true := by simp; omega
                    have HQ := Lib.hid (fun (v : Int) (e : v = r1 (sn seen j) (sn seen i)) => (show 1 ≤ min x v ∧ min x v ≤ L - s ∧ Hid (l0 = (l1 ++ [i]) ++ l' ∧ Here par seen i0 (l1 ++ [i]) j) ∧ Hid (Flo.Way (fun v => v == a) par seen j l') ∧ Hid (Cap r1 par seen (l1 ++ [i]) (min x v)) from by
                      refine ⟨by omega, by omega, Lib.hid ⟨by rw [hl.out.1, e1, List.append_assoc]; rfl, Here.snoc ep⟩, Lib.hid hw2, Lib.hid ((hcap.out.less (by omega)).snoc (by rw [ep]; omega))⟩))
                    have HJ := Lib.hid hji
                    have HPL := Lib.hid (fun u (hu : u < seen.length) => plc_sn HP.out.bfs.nd hu)
                    have hjl : j < seen.length := by omega
                    have hb1 := H1.out _ _ hjk hik
                    have hb2 := H1.out _ _ hik hjk
                    clear hr hne
                    generalize hu : sn seen i = u at *
                    generalize hu2 : sn seen j = u2 at *
                    have HU := Lib.hid hu
                    have HU2 := Lib.hid hu2
                    obtain ⟨v, hv⟩ : ∃ v, v = r1 u2 u := ⟨_, rfl⟩
                    obtain ⟨q1, q2, q3, q4, q5⟩ := HQ.out v hv
                    rw [← hv] at c3 hb1
                    clear hu hu2 hw hl hcap hw2 ep eg c2 HQ hv hpos hrow e1 hb2
                    go_wp2_with fail
                    go_roundw
                    case rel => exact ⟨j, _, l1 ++ [i], l', hjl, rfl, by rw [HU2.out], q1, q2, q3, q4, q5, trivial⟩
                    case measure => simp only [intOf, Int.toNat_natCast]; rw [← HU.out, ← HU2.out, HPL.out _ hi', HPL.out _ hjl]; exact HJ.out
                  case pos =>
                    have hl2 := PathI.yes hw.out hr
                    have HC0 : Hid (Cap r1 par seen l0 x) := Lib.hid (by rw [hl.out.1, hl2, List.append_nil]; exact hcap.out)
                    have HH1 : Hid (Here par seen i0 l0 i) := Lib.hid (by have h1 := hl.out.1; rw [hl2, List.append_nil] at h1; rw [h1]; exact hl.out.2)
                    have HA0 : Hid (Along K r1 r1 seen i0 b x) := Lib.hid (by
                      rw [← HE.out]
                      exact Along.start fun u v hu hv => (H1.out u v hu hv).1)
                    have HM3 := Lib.hid (HM.out.below (HB.out.mono (by rw [HT.out]; exact Nat.le_refl _)))
                    have HC3 := Lib.hid (HC.out.trans (Chg.of_below (lo := lo) (hi := hi) (HB.out.mono (by rw [HT.out]; exact Nat.le_refl _))))
                    have hd : ((sn seen i : Int) != (a : Int)) = false := by simp; omega
                    have HI := Lib.hid hr
                    obtain ⟨W3, HW3⟩ : ∃ W3, Hid (W3 = wr) := ⟨_, Lib.hid rfl⟩
                    have HV3 : Hid (Vec W3 T (T + 1) (some ⟨T, 0, none⟩) K K g) := Lib.hid (by rw [HW3.out]; exact HV.out)
                    have hT3 : hi ≤ T := by rw [← HT.out]; exact hzW
                    have HG0 := Lib.hid (Chg.refl lo hi wr)
                    clear hl hcap hl2 hw HM HB hzW
                    generalize sn seen i = u at *
                    clear hr HV
                    go_wp2_with fail
                    clear hd
                    go_loopw [18] (fun vv wr6 => ∃ (e : Nat) (y : Nat → Nat → Int) (l1 l2 : List Nat), e < seen.length ∧ vv = .int .i64 (sn seen e) ∧ Hid (l0 = l1 ++ l2 ∧ Here par seen i0 l1 e) ∧ Hid (Flo.Way (fun v => v == a) par seen e l2) ∧ Hid (Cap r1 par seen l2 x) ∧ Hid (Along K r1 y seen e b x) ∧ Hid (Mat wr6 lo hi A K c K y) ∧ Hid (Chg lo hi W3 wr6)) (fun vv _ => plc seen (intOf vv).toNat)
                    case atStart => exact ⟨i0, r1, [], l0, HP.out.i0, by rw [HE.out], Lib.hid ⟨rfl, Here.start⟩, HW0, HC0, HA0, HM3, Lib.hid (by rw [HW3.out]; exact HG0.out)⟩
                    case round =>
                      clear HA0 HM3 HC0 HG0
                      obtain ⟨e, y, k1, k2, he, rfl, hl, hw, HC2, HA2, HM2, HG2⟩ := hrel
                      by_cases hr2 : sn seen e = a
                      case neg =>
                        obtain ⟨j2, l', e1, hje, eg, ep, hw2, hjk2, hek, hne, hpos⟩ := HP.out.no he hw.out hr2
                        have HVw := Lib.hid (OwnI.chg HV3.out HG2.out (.inr hT3))
                        obtain ⟨gg, eg', cg, _⟩ := vec_cell HVw.out hek
                        obtain rfl : T = gg := congrArg Addr.block (Option.some.inj eg')
                        rw [eg] at cg
                        obtain ⟨g1, gr, cr, rfl, m1, m2, m3, m4, m5, m6, m7, m8, m9, m10, back⟩ := mat_cell HM2.out hjk2 hek
                        have hyb := push_bd HA2.out.sent H1.out hjk2 hek
                        have hyb2 := push_bd HA2.out.sent H1.out hek hjk2
                        have hcap := HC2.out
                        rw [e1] at hcap
                        have hcap1 := hcap.head
                        rw [ep] at hcap1
                        have hal := HA2.out.step HP.out.bfs he hje (by omega) hcap1
                        have HA3 : Hid (Along K r1 (updM (updM y (sn seen j2) (sn seen e) (y (sn seen j2) (sn seen e) - x)) (sn seen e) (sn seen j2) (y (sn seen e) (sn seen j2) + x)) seen j2 b x) := Lib.hid (hal.congr0 fun p q => (edge_upd hne p q).symm)
                        have HQ := Lib.hid (show Hid (l0 = (k1 ++ [e]) ++ l' ∧ Here par seen i0 (k1 ++ [e]) j2) ∧ Hid (Flo.Way (fun v => v == a) par seen j2 l') ∧ Hid (Cap r1 par seen l' x) from ⟨Lib.hid ⟨by rw [hl.out.1, e1, List.append_assoc]; rfl, Here.snoc ep⟩, Lib.hid hw2, Lib.hid hcap.tail⟩)
                        have hjl2 : j2 < seen.length := by omega
                        have HMe : Hid (plc seen (sn seen j2) < plc seen (sn seen e)) := Lib.hid (by rw [plc_sn HP.out.bfs.nd he, plc_sn HP.out.bfs.nd hjl2]; exact hje)
                        have hd : ((sn seen e : Int) != (a : Int)) = true := by simp; omega
                        have hm0 : updM y (sn seen j2) (sn seen e) (y (sn seen j2) (sn seen e) - x) (sn seen e) (sn seen j2) = y (sn seen e) (sn seen j2) := by
                          unfold updM
                          rw [if_neg (fun h => hne h.2)]
                        have HM3 := Lib.hid (back (y (sn seen j2) (sn seen e) - x))
                        have HG3 := Lib.hid (HG2.out.set (i := sn seen e) (v := .int .i64 (y (sn seen j2) (sn seen e) - x)) m4 m5)
                        have HVw3 := Lib.hid (OwnI.chg HV3.out HG3.out (.inr hT3))
                        obtain ⟨gg, eg2, cg2, _⟩ := vec_cell HVw3.out hek
                        obtain rfl : T = gg := congrArg Addr.block (Option.some.inj eg2)
                        rw [eg] at cg2
                        obtain ⟨g1', gr2, cr2, eA, p1, p2, p3, p4, p5, p6, p7, p8, p9, p10, back2⟩ := mat_cell HM3.out hek hjk2
                        obtain rfl : g1 = g1' := congrArg Addr.block (Option.some.inj eA)
                        rw [hm0] at p2
                        have HM4 := Lib.hid (back2 (y (sn seen e) (sn seen j2) + x))
                        have HG4 := Lib.hid (HG3.out.set (i := sn seen j2) (v := .int .i64 (y (sn seen e) (sn seen j2) + x)) p4 p5)
                        have HVw4 := Lib.hid (OwnI.chg HV3.out HG4.out.drew (.inr hT3))
                        obtain ⟨gg, eg3, cg3, _⟩ := vec_cell HVw4.out hek
                        obtain rfl : T = gg := congrArg Addr.block (Option.some.inj eg3)
                        rw [eg] at cg3
                        clear hal hcap hcap1 hl hw HC2 HA2 HM2 HM3 HG2 HG3 HVw HVw3 HVw4 eg3 hpos ep e1 hw2 eg eg2 eA hm0 hr2 back back2 m4 m5 m6 m7 m8 m9 m10 p4 p5 p6 p7 p8 p9 p10 hne hje
                        generalize sn seen e = u at *
                        generalize hu2 : sn seen j2 = u2 at *
                        have HU2 := Lib.hid hu2
                        clear hu2
                        generalize y u2 u = yv at *
                        generalize y u u2 = yv2 at *
                        go_wp2_with fail
                        obtain ⟨w4, hw4⟩ : ∃ w4, w4 = wr.setCell ⟨gr, u, none⟩ (.int .i64 (yv - x)) := ⟨_, rfl⟩
                        rw [← hw4] at HM4 HG4 cg2 cg3 p1 p2 p3 ⊢
                        clear hw4
                        go_region
                        go_wp2
                        go_roundw
                        case rel => exact ⟨j2, _, k1 ++ [e], l', hjl2, by rw [HU2.out], HQ.out.1, HQ.out.2.1, HQ.out.2.2, HA3, Lib.hid (HM4.out.below (Below.refl _ _).drew), Lib.hid HG4.out.drew⟩
                        case measure => simp only [intOf, Int.toNat_natCast]; exact HMe.out
                      case pos =>
                        have hsent := HA2.out.sent
                        rw [hr2] at hsent
                        have HSn := Lib.hid (HS.out.trans hsent)
                        have HCn := Lib.hid (HC3.out.trans (by rw [← HW3.out]; exact HG2.out))
                        have hzn : hi ≤ wr.heap.size := Nat.le_trans (by rw [HW3.out]; omega) HG2.out.size
                        have hd : ((sn seen e : Int) != (a : Int)) = false := by simp; omega
                        clear hsent hl hw HC2 HA2 HG2 hr2
                        generalize sn seen e = u at *
                        go_wp2
                        go_roundw
                        case rel => exact ⟨s + x, y, rfl, by omega, by omega, HM2, HSn, HCn, hzn⟩
                        case measure => simp [intOf]; omega
              case neg =>
                obtain ⟨i0, hi0, he⟩ := mem_sn.1 hbs
                obtain ⟨l0, hl0⟩ := HBf.out.way i0 i0 (Nat.le_refl _) hi0
                have HP : Hid (PathI K r1 a g par seen k i0 l0) := Lib.hid ⟨HBf.out, HBk.out, hl0, hi0⟩
                have HE := Lib.hid he
                have HW0 := Lib.hid hl0
                have HZ3 := Lib.hid hz3
                have hgb0 : 0 ≤ g b := (BkI.ge HBk.out hb).1 hbs
                clear HQ HBf HBk hl0 he hbs
                generalize g b = gb at *
                go_wp2_with fail
                clear hgb0 cgb
                go_loopw [16, 17] (fun xv vv wr5 => ∃ (i : Nat) (x : Int) (l1 l2 : List Nat), i < seen.length ∧ xv = .int .i64 x ∧ vv = .int .i64 (sn seen i) ∧ 1 ≤ x ∧ x ≤ L - s ∧ Hid (l0 = l1 ++ l2 ∧ Here par seen i0 l1 i) ∧ Hid (Flo.Way (fun v => v == a) par seen i l2) ∧ Hid (Cap r1 par seen l1 x) ∧ wr = wr5) (fun _ vv _ => plc seen (intOf vv).toNat)
                case atStart => exact ⟨i0, L - s, [], l0, hi0, rfl, by rw [HE.out], by omega, by omega, Lib.hid ⟨rfl, Here.start⟩, HW0, Lib.hid Cap.nil, rfl⟩
                case round =>
                  obtain ⟨i, x, l1, l2, hi', rfl, rfl, hx1, hx2, hl, hw, hcap, rfl⟩ := hrel
                  by_cases hr : sn seen i = a
                  case neg =>
                    obtain ⟨j, l', e1, hji, eg, ep, hw2, hjk, hik, hne, hpos⟩ := HP.out.no hi' hw.out hr
                    obtain ⟨gg, eg', cg, _⟩ := vec_cell HV.out hik
                    obtain rfl : T = gg := congrArg Addr.block (Option.some.inj eg')
                    rw [eg] at cg
                    obtain ⟨g1, gr, cr, rfl, hrow⟩ := push_row HM.out HT.out hjk
                    obtain ⟨c1, c2⟩ := hrow _ HB.out
                    have c3 := c2 _ hik
                    have hd : ((sn seen i : Int) != (a : Int)) = true := by simp; omega
                    have HQ := Lib.hid (fun (v : Int) (e : v = r1 (sn seen j) (sn seen i)) => (show 1 ≤ min x v ∧ min x v ≤ L - s ∧ Hid (l0 = (l1 ++ [i]) ++ l' ∧ Here par seen i0 (l1 ++ [i]) j) ∧ Hid (Flo.Way (fun v => v == a) par seen j l') ∧ Hid (Cap r1 par seen (l1 ++ [i]) (min x v)) from by
                      refine ⟨by omega, by omega, Lib.hid ⟨by rw [hl.out.1, e1, List.append_assoc]; rfl, Here.snoc ep⟩, Lib.hid hw2, Lib.hid ((hcap.out.less (by omega)).snoc (by rw [ep]; omega))⟩))
                    have HJ := Lib.hid hji
                    have HPL := Lib.hid (fun u (hu : u < seen.length) => plc_sn HP.out.bfs.nd hu)
                    have hjl : j < seen.length := by omega
                    have hb1 := H1.out _ _ hjk hik
                    have hb2 := H1.out _ _ hik hjk
                    clear hr hne
                    generalize hu : sn seen i = u at *
                    generalize hu2 : sn seen j = u2 at *
                    have HU := Lib.hid hu
                    have HU2 := Lib.hid hu2
                    obtain ⟨v, hv⟩ : ∃ v, v = r1 u2 u := ⟨_, rfl⟩
                    obtain ⟨q1, q2, q3, q4, q5⟩ := HQ.out v hv
                    rw [← hv] at c3 hb1
                    clear hu hu2 hw hl hcap hw2 ep eg c2 HQ hv hpos hrow e1 hb2
                    go_wp2_with fail
                    go_roundw
                    case rel => exact ⟨j, _, l1 ++ [i], l', hjl, rfl, by rw [HU2.out], q1, q2, q3, q4, q5, trivial⟩
                    case measure => simp only [intOf, Int.toNat_natCast]; rw [← HU.out, ← HU2.out, HPL.out _ hi', HPL.out _ hjl]; exact HJ.out
                  case pos =>
                    have hl2 := PathI.yes hw.out hr
                    have HC0 : Hid (Cap r1 par seen l0 x) := Lib.hid (by rw [hl.out.1, hl2, List.append_nil]; exact hcap.out)
                    have HH1 : Hid (Here par seen i0 l0 i) := Lib.hid (by have h1 := hl.out.1; rw [hl2, List.append_nil] at h1; rw [h1]; exact hl.out.2)
                    have HA0 : Hid (Along K r1 r1 seen i0 b x) := Lib.hid (by
                      rw [← HE.out]
                      exact Along.start fun u v hu hv => (H1.out u v hu hv).1)
                    have HM3 := Lib.hid (HM.out.below (HB.out.mono (by rw [HT.out]; exact Nat.le_refl _)))
                    have HC3 := Lib.hid (HC.out.trans (Chg.of_below (lo := lo) (hi := hi) (HB.out.mono (by rw [HT.out]; exact Nat.le_refl _))))
                    have hd : ((sn seen i : Int) != (a : Int)) = false := by simp; omega
                    have HI := Lib.hid hr
                    obtain ⟨W3, HW3⟩ : ∃ W3, Hid (W3 = wr) := ⟨_, Lib.hid rfl⟩
                    have HV3 : Hid (Vec W3 T (T + 1) (some ⟨T, 0, none⟩) K K g) := Lib.hid (by rw [HW3.out]; exact HV.out)
                    have hT3 : hi ≤ T := by rw [← HT.out]; exact hzW
                    have HG0 := Lib.hid (Chg.refl lo hi wr)
                    clear hl hcap hl2 hw HM HB hzW
                    generalize sn seen i = u at *
                    clear hr HV
                    go_wp2_with fail
                    clear hd
                    go_loopw [18] (fun vv wr6 => ∃ (e : Nat) (y : Nat → Nat → Int) (l1 l2 : List Nat), e < seen.length ∧ vv = .int .i64 (sn seen e) ∧ Hid (l0 = l1 ++ l2 ∧ Here par seen i0 l1 e) ∧ Hid (Flo.Way (fun v => v == a) par seen e l2) ∧ Hid (Cap r1 par seen l2 x) ∧ Hid (Along K r1 y seen e b x) ∧ Hid (Mat wr6 lo hi A K c K y) ∧ Hid (Chg lo hi W3 wr6)) (fun vv _ => plc seen (intOf vv).toNat)
                    case atStart => exact ⟨i0, r1, [], l0, HP.out.i0, by rw [HE.out], Lib.hid ⟨rfl, Here.start⟩, HW0, HC0, HA0, HM3, Lib.hid (by rw [HW3.out]; exact HG0.out)⟩
                    case round =>
                      clear HA0 HM3 HC0 HG0
                      obtain ⟨e, y, k1, k2, he, rfl, hl, hw, HC2, HA2, HM2, HG2⟩ := hrel
                      by_cases hr2 : sn seen e = a
                      case neg =>
                        obtain ⟨j2, l', e1, hje, eg, ep, hw2, hjk2, hek, hne, hpos⟩ := HP.out.no he hw.out hr2
                        have HVw := Lib.hid (OwnI.chg HV3.out HG2.out (.inr hT3))
                        obtain ⟨gg, eg', cg, _⟩ := vec_cell HVw.out hek
                        obtain rfl : T = gg := congrArg Addr.block (Option.some.inj eg')
                        rw [eg] at cg
                        obtain ⟨g1, gr, cr, rfl, m1, m2, m3, m4, m5, m6, m7, m8, m9, m10, back⟩ := mat_cell HM2.out hjk2 hek
                        have hyb := push_bd HA2.out.sent H1.out hjk2 hek
                        have hyb2 := push_bd HA2.out.sent H1.out hek hjk2
                        have hcap := HC2.out
                        rw [e1] at hcap
                        have hcap1 := hcap.head
                        rw [ep] at hcap1
                        have hal := HA2.out.step HP.out.bfs he hje (by omega) hcap1
                        have HA3 : Hid (Along K r1 (updM (updM y (sn seen j2) (sn seen e) (y (sn seen j2) (sn seen e) - x)) (sn seen e) (sn seen j2) (y (sn seen e) (sn seen j2) + x)) seen j2 b x) := Lib.hid (hal.congr0 fun p q => (edge_upd hne p q).symm)
                        have HQ := Lib.hid (show Hid (l0 = (k1 ++ [e]) ++ l' ∧ Here par seen i0 (k1 ++ [e]) j2) ∧ Hid (Flo.Way (fun v => v == a) par seen j2 l') ∧ Hid (Cap r1 par seen l' x) from ⟨Lib.hid ⟨by rw [hl.out.1, e1, List.append_assoc]; rfl, Here.snoc ep⟩, Lib.hid hw2, Lib.hid hcap.tail⟩)
                        have hjl2 : j2 < seen.length := by omega
                        have HMe : Hid (plc seen (sn seen j2) < plc seen (sn seen e)) := Lib.hid (by rw [plc_sn HP.out.bfs.nd he, plc_sn HP.out.bfs.nd hjl2]; exact hje)
                        have hd : ((sn seen e : Int) != (a : Int)) = true := by simp; omega
                        have hm0 : updM y (sn seen j2) (sn seen e) (y (sn seen j2) (sn seen e) - x) (sn seen e) (sn seen j2) = y (sn seen e) (sn seen j2) := by
                          unfold updM
                          rw [if_neg (fun h => hne h.2)]
                        have HM3 := Lib.hid (back (y (sn seen j2) (sn seen e) - x))
                        have HG3 := Lib.hid (HG2.out.set (i := sn seen e) (v := .int .i64 (y (sn seen j2) (sn seen e) - x)) m4 m5)
                        have HVw3 := Lib.hid (OwnI.chg HV3.out HG3.out (.inr hT3))
                        obtain ⟨gg, eg2, cg2, _⟩ := vec_cell HVw3.out hek
                        obtain rfl : T = gg := congrArg Addr.block (Option.some.inj eg2)
                        rw [eg] at cg2
                        obtain ⟨g1', gr2, cr2, eA, p1, p2, p3, p4, p5, p6, p7, p8, p9, p10, back2⟩ := mat_cell HM3.out hek hjk2
                        obtain rfl : g1 = g1' := congrArg Addr.block (Option.some.inj eA)
                        rw [hm0] at p2
                        have HM4 := Lib.hid (back2 (y (sn seen e) (sn seen j2) + x))
                        have HG4 := Lib.hid (HG3.out.set (i := sn seen j2) (v := .int .i64 (y (sn seen e) (sn seen j2) + x)) p4 p5)
                        have HVw4 := Lib.hid (OwnI.chg HV3.out HG4.out.drew (.inr hT3))
                        obtain ⟨gg, eg3, cg3, _⟩ := vec_cell HVw4.out hek
                        obtain rfl : T = gg := congrArg Addr.block (Option.some.inj eg3)
                        rw [eg] at cg3
                        clear hal hcap hcap1 hl hw HC2 HA2 HM2 HM3 HG2 HG3 HVw HVw3 HVw4 eg3 hpos ep e1 hw2 eg eg2 eA hm0 hr2 back back2 m4 m5 m6 m7 m8 m9 m10 p4 p5 p6 p7 p8 p9 p10 hne hje
                        generalize sn seen e = u at *
                        generalize hu2 : sn seen j2 = u2 at *
                        have HU2 := Lib.hid hu2
                        clear hu2
                        generalize y u2 u = yv at *
                        generalize y u u2 = yv2 at *
                        go_wp2_with fail
                        obtain ⟨w4, hw4⟩ : ∃ w4, w4 = wr.setCell ⟨gr, u, none⟩ (.int .i64 (yv - x)) := ⟨_, rfl⟩
                        rw [← hw4] at HM4 HG4 cg2 cg3 p1 p2 p3 ⊢
                        clear hw4
                        go_region
                        go_wp2
                        go_roundw
                        case rel => exact ⟨j2, _, k1 ++ [e], l', hjl2, by rw [HU2.out], HQ.out.1, HQ.out.2.1, HQ.out.2.2, HA3, Lib.hid (HM4.out.below (Below.refl _ _).drew), Lib.hid HG4.out.drew⟩
                        case measure => simp only [intOf, Int.toNat_natCast]; exact HMe.out
                      case pos =>
                        have hsent := HA2.out.sent
                        rw [hr2] at hsent
                        have HSn := Lib.hid (HS.out.trans hsent)
                        have HCn := Lib.hid (HC3.out.trans (by rw [← HW3.out]; exact HG2.out))
                        have hzn : hi ≤ wr.heap.size := Nat.le_trans (by rw [HW3.out]; omega) HG2.out.size
                        have hd : ((sn seen e : Int) != (a : Int)) = false := by simp; omega
                        clear hsent hl hw HC2 HA2 HG2 hr2
                        generalize sn seen e = u at *
                        go_wp2
                        go_roundw
                        case rel => exact ⟨s + x, y, rfl, by omega, by omega, HM2, HSn, HCn, hzn⟩
                        case measure => simp [intOf]; omega
            case neg =>
              rw [(BkI.ge HBk.out hb).2 hbs] at cgb
              have HBS := Lib.hid hbs
              by_cases hn0 : 0 < n
              case neg =>
                have HMo : Hid (Most K r1 a b s L) := Lib.hid (by
                  obtain rfl : k = seen.length := by omega
                  exact most_of HBf.out ha hbs)
                have HM2 := Lib.hid (HM.out.below (HB.out.mono (by rw [HT.out]; exact Nat.le_refl _)))
                have HC2 := Lib.hid (HC.out.trans (Chg.of_below (lo := lo) (hi := hi) (HB.out.mono (by rw [HT.out]; exact Nat.le_refl _))))
                clear HBf HBk hbs
                go_wp2
                go_ret
                exact ⟨s, rfl, hs0, hsL, r1, HM2.out, HS.out, HMo.out, HC2.out⟩
              case pos =>
                have hks : k < seen.length := by omega
                have hq1 := HQ.out
                rw [drop_sn hks, show nums (sn seen k :: seen.drop (k + 1)) = (sn seen k : Int) :: nums (seen.drop (k + 1)) from rfl] at hq1
                obtain ⟨bq, oq, rfl, cq, _, hcD⟩ := QS.head hq1
                have HQT := Lib.hid (fun (A' : Option Addr) (hA : 0 < cD - 1 → A' = some ⟨bq, oq + 1, none⟩) => QS.tail hq1 hA)
                have hvk : sn seen k < K := HBf.out.lt k hks
                obtain ⟨g1, gr, cr, rfl, hrow⟩ := push_row HM.out HT.out hvk
                have HR := Lib.hid hrow
                obtain ⟨cr0, _⟩ := hrow _ HB.out
                have HSM := Lib.hid (seenAt_of HV.out HBk.out HBf.out)
                obtain ⟨v0, HV0⟩ : ∃ v0, Hid (sn seen k = v0) := ⟨_, Lib.hid rfl⟩
                rw [HV0.out] at cq hvk cr0 HR
                clear hq1 hrow hbs HQ
                go_wp2_with fail
                case inl =>
                  subst h
                  go_loopw [12, 60] (fun qv iv wr4 => ∃ (u n cD : Nat) (D : Option Addr) (seen : List Nat) (par : Nat → Nat) (g : Nat → Int), u ≤ K ∧ iv = .int .i64 u ∧ qv = .slice D n cD ∧ n + (k + 1) = seen.length ∧ seen.length ≤ K ∧ Hid (sn seen k = v0) ∧ Hid (Bfs K r1 (fun v => v == a) par seen k) ∧ Hid (BkI K g par seen) ∧ Hid (∀ z, z < u → 0 < r1 v0 z → z ∈ seen) ∧ Hid (QS wr4 (T + 1) D n cD (nums (seen.drop (k + 1)))) ∧ Hid (Vec wr4 T (T + 1) (some ⟨T, 0, none⟩) K K g) ∧ Hid (Below T W wr4) ∧ T + 1 ≤ wr4.heap.size) (fun _ iv _ => K - (intOf iv).toNat)
                  case atStart => exact ⟨0, _, _, _, seen, par, g, Nat.zero_le _, rfl, rfl, by omega, hsl, HV0, HBf, HBk, Lib.hid (fun z hz => absurd hz (by omega)), Lib.hid (HQT.out _ (by intro h9; first | (exact absurd h9 (by omega)) | rfl)), HV, HB, hz3⟩
                  case round =>
                    clear HQT HV HB HBf HBk hz3 HV0 hsl
                    obtain ⟨u, n, cD, D, seen, par, g, hu, rfl, rfl, hn2, hsl, HV0, HBf, HBk, HZ, HQ, HV, HB, hz3⟩ := hrel
                    by_cases hun : u < K
                    case neg =>
                      have HBf2 : Hid (Bfs K r1 (fun v => v == a) par seen (k + 1)) := Lib.hid (HBf.out.next (by omega) fun z hzk hr => HZ.out z (by omega) (by rw [HV0.out] at hr; exact hr))
                      have HM2 := Lib.hid (seenAt_of HV.out HBk.out HBf.out)
                      go_wp2
                      go_roundw
                      case rel => exact ⟨k + 1, n, cD, D, seen, par, g, rfl, by omega, hsl, HQ, HV, HBf2, HBk, HB, hz3⟩
                      case measure => rw [HM2.out, HSM.out]; simp only [lenQ]; omega
                    case pos =>
                      obtain ⟨gg, eg, cg, cf, s1, s2, s3, back⟩ := vec_cell HV.out hun
                      obtain rfl : T = gg := congrArg Addr.block (Option.some.inj eg)
                      have cru := (HR.out _ HB.out).2 u hun
                      have hbk := BkI.ge HBk.out hun
                      by_cases hr : 0 < r1 v0 u
                      case neg =>
                        have HZ2 : Hid (∀ z, z < u + 1 → 0 < r1 v0 z → z ∈ seen) := Lib.hid (fun z hzu hr2 => by
                          rcases Nat.lt_or_ge z u with h1 | h1
                          · exact HZ.out z h1 hr2
                          · obtain rfl : z = u := by omega
                            exact absurd hr2 hr)
                        clear back hbk s1 s2 s3 eg HZ cg cf
                        generalize r1 v0 u = rr at *
                        go_wp2
                        go_roundw
                        case rel => exact ⟨u + 1, n, cD, D, seen, par, g, by omega, by go_num, rfl, hn2, hsl, HV0, HBf, HBk, HZ2, HQ, HV, HB, hz3⟩
                        case measure => simp [intOf]; omega
                      case pos =>
                        by_cases hus : u ∈ seen
                        case pos =>
                          have HZ2 : Hid (∀ z, z < u + 1 → 0 < r1 v0 z → z ∈ seen) := Lib.hid (fun z hzu hr2 => by
                            rcases Nat.lt_or_ge z u with h1 | h1
                            · exact HZ.out z h1 hr2
                            · obtain rfl : z = u := by omega
                              exact hus)
                          have hgu := hbk.1 hus
                          clear back hbk s1 s2 s3 eg HZ hus
                          generalize r1 v0 u = rr at *
                          generalize g u = gu at *
                          go_wp2
                          go_roundw
                          case rel => exact ⟨u + 1, n, cD, D, seen, par, g, by omega, by go_num, rfl, hn2, hsl, HV0, HBf, HBk, HZ2, HQ, HV, HB, hz3⟩
                          case measure => simp [intOf]; omega
                        case neg =>
                          rw [hbk.2 hus] at cg
                          have HZ2 : Hid (∀ z, z < u + 1 → 0 < r1 v0 z → z ∈ seen ++ [u]) := Lib.hid (fun z hzu hr2 => by
                            rcases Nat.lt_or_ge z u with h1 | h1
                            · exact List.mem_append_left _ (HZ.out z h1 hr2)
                            · obtain rfl : z = u := by omega
                              exact List.mem_append_right _ (List.mem_singleton.2 rfl))
                          have HBf2 : Hid (Bfs K r1 (fun v => v == a) (fun z => if z = u then v0 else par z) (seen ++ [u]) k) := Lib.hid (by
                            have h1 := HBf.out.more (by omega) (v := u) hun hus (by rw [HV0.out]; exact hr)
                            rw [HV0.out] at h1
                            exact h1)
                          have HBk2 := Lib.hid (HBk.out.more (v := u) (p := v0))
                          have HV02 : Hid (sn (seen ++ [u]) k = v0) := Lib.hid (by rw [sn_left (by omega)]; exact HV0.out)
                          have hlen : seen.length + 1 ≤ K := by
                            have h1 := HBf2.out.len
                            simpa using h1
                          have HV2 := Lib.hid (back (v0 : Int))
                          have HQ3 := Lib.hid (QS.set HQ.out (p := ⟨T, u, none⟩) (v := .int .i64 (v0 : Int)) (Nat.lt_succ_self T))
                          have HB3 := Lib.hid (HB.out.setCell (p := ⟨T, u, none⟩) (Nat.le_refl _) (.int .i64 (v0 : Int)))
                          have HZ3 : Hid (T + 1 ≤ (wr.setCell ⟨T, u, none⟩ (.int .i64 (v0 : Int))).heap.size) := Lib.hid (by simpa using hz3)
                          have HSL : Hid ((seen ++ [u]).length = seen.length + 1) := Lib.hid (by simp)
                          have HS2 := Lib.hid (nums_drop_snoc (l := seen) (k := k + 1) (v := u) (by omega))
                          have hnK : n ≤ 18 := by omega
                          clear back hbk s1 s2 s3 eg HZ hus HBf HBk HQ HV HB hz3
                          generalize r1 v0 u = rr at *
                          go_wp2_with (at_builtin; refine wp_appQ rfl _ _ rfl (T + 1) D n cD _ rfl HQ3.out _ rfl (by simp) (by omega) HZ3.out ?_; intro D2 cD2 w6 ho6 hb6; have HQ6 := Lib.hid ho6; have HB6 := Lib.hid (HB3.out.trans (hb6.mono (Nat.le_succ _))); have HZ6 : Hid (T + 1 ≤ w6.heap.size) := Lib.hid (Nat.le_trans HZ3.out hb6.size); have HV6 : Hid (Vec w6 T (T + 1) (some ⟨T, 0, none⟩) K K (fun z => if z = u then (v0 : Int) else g z)) := Lib.hid ⟨HV2.out.own.keep (fun g e hg => hb6.block g (HV2.out.top g (by rw [e]; rfl))), HV2.out.top, HV2.out.small⟩; rw [← HS2.out] at HQ6; clear ho6 hb6)
                          go_roundw
                          case rel => exact ⟨u + 1, n + 1, cD2, D2, seen ++ [u], _, _, by omega, by go_num, rfl, by rw [HSL.out]; omega, by rw [HSL.out]; exact hlen, HV02, HBf2, HBk2, HZ2, HQ6, HV6, HB6, HZ6.out⟩
                          case measure => simp [intOf]; omega
                case inr =>
                  go_loopw [12, 60] (fun qv iv wr4 => ∃ (u n cD : Nat) (D : Option Addr) (seen : List Nat) (par : Nat → Nat) (g : Nat → Int), u ≤ K ∧ iv = .int .i64 u ∧ qv = .slice D n cD ∧ n + (k + 1) = seen.length ∧ seen.length ≤ K ∧ Hid (sn seen k = v0) ∧ Hid (Bfs K r1 (fun v => v == a) par seen k) ∧ Hid (BkI K g par seen) ∧ Hid (∀ z, z < u → 0 < r1 v0 z → z ∈ seen) ∧ Hid (QS wr4 (T + 1) D n cD (nums (seen.drop (k + 1)))) ∧ Hid (Vec wr4 T (T + 1) (some ⟨T, 0, none⟩) K K g) ∧ Hid (Below T W wr4) ∧ T + 1 ≤ wr4.heap.size) (fun _ iv _ => K - (intOf iv).toNat)
                  case atStart => exact ⟨0, _, _, _, seen, par, g, Nat.zero_le _, rfl, rfl, by omega, hsl, HV0, HBf, HBk, Lib.hid (fun z hz => absurd hz (by omega)), Lib.hid (HQT.out _ (by intro h9; first | (exact absurd h9 (by omega)) | rfl)), HV, HB, hz3⟩
                  case round =>
                    clear HQT HV HB HBf HBk hz3 HV0 hsl
                    obtain ⟨u, n, cD, D, seen, par, g, hu, rfl, rfl, hn2, hsl, HV0, HBf, HBk, HZ, HQ, HV, HB, hz3⟩ := hrel
                    by_cases hun : u < K
                    case neg =>
                      have HBf2 : Hid (Bfs K r1 (fun v => v == a) par seen (k + 1)) := Lib.hid (HBf.out.next (by omega) fun z hzk hr => HZ.out z (by omega) (by rw [HV0.out] at hr; exact hr))
                      have HM2 := Lib.hid (seenAt_of HV.out HBk.out HBf.out)
                      go_wp2
                      go_roundw
                      case rel => exact ⟨k + 1, n, cD, D, seen, par, g, rfl, by omega, hsl, HQ, HV, HBf2, HBk, HB, hz3⟩
                      case measure => rw [HM2.out, HSM.out]; simp only [lenQ]; omega
                    case pos =>
                      obtain ⟨gg, eg, cg, cf, s1, s2, s3, back⟩ := vec_cell HV.out hun
                      obtain rfl : T = gg := congrArg Addr.block (Option.some.inj eg)
                      have cru := (HR.out _ HB.out).2 u hun
                      have hbk := BkI.ge HBk.out hun
                      by_cases hr : 0 < r1 v0 u
                      case neg =>
                        have HZ2 : Hid (∀ z, z < u + 1 → 0 < r1 v0 z → z ∈ seen) := Lib.hid (fun z hzu hr2 => by
                          rcases Nat.lt_or_ge z u with h1 | h1
                          · exact HZ.out z h1 hr2
                          · obtain rfl : z = u := by omega
                            exact absurd hr2 hr)
                        clear back hbk s1 s2 s3 eg HZ cg cf
                        generalize r1 v0 u = rr at *
                        go_wp2
                        go_roundw
                        case rel => exact ⟨u + 1, n, cD, D, seen, par, g, by omega, by go_num, rfl, hn2, hsl, HV0, HBf, HBk, HZ2, HQ, HV, HB, hz3⟩
                        case measure => simp [intOf]; omega
                      case pos =>
                        by_cases hus : u ∈ seen
                        case pos =>
                          have HZ2 : Hid (∀ z, z < u + 1 → 0 < r1 v0 z → z ∈ seen) := Lib.hid (fun z hzu hr2 => by
                            rcases Nat.lt_or_ge z u with h1 | h1
                            · exact HZ.out z h1 hr2
                            · obtain rfl : z = u := by omega
                              exact hus)
                          have hgu := hbk.1 hus
                          clear back hbk s1 s2 s3 eg HZ hus
                          generalize r1 v0 u = rr at *
                          generalize g u = gu at *
                          go_wp2
                          go_roundw
                          case rel => exact ⟨u + 1, n, cD, D, seen, par, g, by omega, by go_num, rfl, hn2, hsl, HV0, HBf, HBk, HZ2, HQ, HV, HB, hz3⟩
                          case measure => simp [intOf]; omega
                        case neg =>
                          rw [hbk.2 hus] at cg
                          have HZ2 : Hid (∀ z, z < u + 1 → 0 < r1 v0 z → z ∈ seen ++ [u]) := Lib.hid (fun z hzu hr2 => by
                            rcases Nat.lt_or_ge z u with h1 | h1
                            · exact List.mem_append_left _ (HZ.out z h1 hr2)
                            · obtain rfl : z = u := by omega
                              exact List.mem_append_right _ (List.mem_singleton.2 rfl))
                          have HBf2 : Hid (Bfs K r1 (fun v => v == a) (fun z => if z = u then v0 else par z) (seen ++ [u]) k) := Lib.hid (by
                            have h1 := HBf.out.more (by omega) (v := u) hun hus (by rw [HV0.out]; exact hr)
                            rw [HV0.out] at h1
                            exact h1)
                          have HBk2 := Lib.hid (HBk.out.more (v := u) (p := v0))
                          have HV02 : Hid (sn (seen ++ [u]) k = v0) := Lib.hid (by rw [sn_left (by omega)]; exact HV0.out)
                          have hlen : seen.length + 1 ≤ K := by
                            have h1 := HBf2.out.len
                            simpa using h1
                          have HV2 := Lib.hid (back (v0 : Int))
                          have HQ3 := Lib.hid (QS.set HQ.out (p := ⟨T, u, none⟩) (v := .int .i64 (v0 : Int)) (Nat.lt_succ_self T))
                          have HB3 := Lib.hid (HB.out.setCell (p := ⟨T, u, none⟩) (Nat.le_refl _) (.int .i64 (v0 : Int)))
                          have HZ3 : Hid (T + 1 ≤ (wr.setCell ⟨T, u, none⟩ (.int .i64 (v0 : Int))).heap.size) := Lib.hid (by simpa using hz3)
                          have HSL : Hid ((seen ++ [u]).length = seen.length + 1) := Lib.hid (by simp)
                          have HS2 := Lib.hid (nums_drop_snoc (l := seen) (k := k + 1) (v := u) (by omega))
                          have hnK : n ≤ 18 := by omega
                          clear back hbk s1 s2 s3 eg HZ hus HBf HBk HQ HV HB hz3
                          generalize r1 v0 u = rr at *
                          go_wp2_with (at_builtin; refine wp_appQ rfl _ _ rfl (T + 1) D n cD _ rfl HQ3.out _ rfl (by simp) (by omega) HZ3.out ?_; intro D2 cD2 w6 ho6 hb6; have HQ6 := Lib.hid ho6; have HB6 := Lib.hid (HB3.out.trans (hb6.mono (Nat.le_succ _))); have HZ6 : Hid (T + 1 ≤ w6.heap.size) := Lib.hid (Nat.le_trans HZ3.out hb6.size); have HV6 : Hid (Vec w6 T (T + 1) (some ⟨T, 0, none⟩) K K (fun z => if z = u then (v0 : Int) else g z)) := Lib.hid ⟨HV2.out.own.keep (fun g e hg => hb6.block g (HV2.out.top g (by rw [e]; rfl))), HV2.out.top, HV2.out.small⟩; rw [← HS2.out] at HQ6; clear ho6 hb6)
                          go_roundw
                          case rel => exact ⟨u + 1, n + 1, cD2, D2, seen ++ [u], _, _, by omega, by go_num, rfl, by rw [HSL.out]; omega, by rw [HSL.out]; exact hlen, HV02, HBf2, HBk2, HZ2, HQ6, HV6, HB6, HZ6.out⟩
                          case measure => simp [intOf]; omega
end Go.Proofs.Ytcjmapdeopffcaa
