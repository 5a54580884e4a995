/- AddGeo, of the reference. -/
import Derived.Test.YtfkdmddfadkjoaaAddGeo
import Derived.Test.YtfkdmddfadkjoaaKGeo
namespace Go.Proofs.Ytfkdmddfadkjoaa
open Go.RowKit

set_option maxRecDepth 100000 in
set_option maxHeartbeats 4000000 in
theorem specAddGeo_law (A : Option Addr) (n c : Nat) (xs : List Int) (p q s : Int) (w : World) (hx : Ints w A n xs) (hn : n ≤ 1099511627776) :
    Calls Try.prog 11 #[.slice A n c, .agg #[.int .i64 p, .int .i64 q], .int .i64 s] w (LPost (addGeoR xs p q s) w) := by
  have hl := Lib.hid hx.1
  have HB1 : Hid (¬ (n : Int) ≤ 100 → numB xs 100 = false) := Lib.hid fun h => numB_1 (by rw [hx.1]; exact h)
  have HB2 : Hid (allR xs (-1000000000) 1000000000 = false → numB xs 100 = false) := Lib.hid fun h => numB_2 h
  have HB3 : Hid ((n : Int) ≤ 100 → allR xs (-1000000000) 1000000000 = true → numB xs 100 = true) := Lib.hid fun h h2 => numB_3 (by rw [hx.1]; exact h) h2
  have R1 := Lib.hid (addGeoR_1 (xs := xs) (p := p) (q := q) (s := s))
  have R2 := Lib.hid (addGeoR_2 (xs := xs) (p := p) (q := q) (s := s))
  have R3 := Lib.hid (addGeoR_3 (xs := xs) (p := p) (q := q) (s := s))
  have R4 := Lib.hid (addGeoR_4 (xs := xs) (p := p) (q := q) (s := s))
  have M1 := Lib.hid (noiM_1 (f := fun a => geoM s p q a) (xs := xs))
  have M2 := Lib.hid (fun l => noiM_2 (f := fun a => geoM s p q a) (xs := xs) (l := l))
  have M3 := Lib.hid (fun l => noiM_3 (f := fun a => geoM s p q a) (xs := xs) (l := l))
  have HT : Hid (noiF (fun a => geoM s p q a) xs [] 0 = noiF (fun a => geoM s p q a) (xs.drop 0) [] 0) := Lib.hid rfl
  generalize addGeoR xs p q s = R at *
  generalize noiM (fun a => geoM s p q a) xs = R0 at *
  generalize noiF (fun a => geoM s p q a) xs [] 0 = T at *
  have x0 := box_new w #[.int .i64 p, .int .i64 q] 28
  have b0 := below_new w (.cells #[.int .i64 p, .int .i64 q] 28)
  have hx0 := hx
  replace hx := hx.below b0
  have hsw := b0.size
  by_cases hm : (n : Int) ≤ 100
  · have hm2 : ¬ 100 < (n : Int) := by omega
    go_enter Try.func11, Try.ntmps11
    go_wp2_with fail
    generalize w.alloc (.cells #[.int .i64 p, .int .i64 q] 28) = w0 at *
    refine (l1All_any _ _ _ xs _ _ _ hx hn).mono ?_
    rintro e w1 ⟨rfl, rfl⟩
    cases hA : allR xs (-1000000000) 1000000000
    · have E := Lib.hid (R1.out (HB2.out hA))
      clear hA R1 R2 R3 R4 HB1 HB2 HB3
      go_wp2
      go_ret2
      exact LPost.no E.out b0
    · have HA3 := Lib.hid hA
      have HA := Lib.hid (HB3.out hm hA)
      clear hA R1 HB1 HB2 HB3
      have c0 := box_cell x0 0 _ rfl
      have c1 := box_cell x0 1 _ rfl
      go_wp2_with fail
      refine (zRatio_any _ _ _).mono ?_
      rintro e w2 ⟨rfl, b2⟩
      replace x0 := box_below x0 b2
      replace hx := hx.below b2
      replace b0 := b0.trans (b2.mono b0.size)
      clear b2 c0 c1
      cases hC : ratioB p q
      · have E := Lib.hid (R2.out hC)
        clear hC R2 R3 R4
        go_wp2
        go_ret2
        exact LPost.no E.out b0
      · have HC := Lib.hid hC
        clear hC R2
        go_wp2_with fail
        refine (hDigest_any _ _ _ [s] _ (ints_one rfl) (by omega)).mono ?_
        rintro e w3 ⟨rfl, rfl⟩
        rw [allR_one]
        have b3 := below_new w2 (.cells #[.int .i64 s] 3)
        replace x0 := box_below x0 b3
        replace hx := hx.below b3
        replace b0 := b0.trans (b3.mono b0.size)
        clear b3
        generalize w2.alloc (.cells #[.int .i64 s] 3) = w3 at *
        cases hS : inR s 0 4611686016279904236
        · have E := Lib.hid (R3.out hS)
          clear hS R3 R4
          go_wp2
          go_ret2
          exact LPost.no E.out b0
        · have E := Lib.hid (R4.out HA.out HC.out hS)
          clear hS R3 R4
          have hz3 := b0.size
          have hlx3 := lt_of_block x0
          go_wp2_with fail
          refine (kOpen_any _ _ _).mono ?_
          rintro e w4 ⟨g, rfl, hr, hg, b4⟩
          replace x0 := box_below x0 b4
          replace hx := hx.below b4
          replace b0 := b0.trans (b4.mono b0.size)
          have hz4 := b0.size
          have hz4' := b4.size
          have hlx := lt_of_block x0
          clear b4
          have hgg := hr.lt
          have hz0 := hz3
          have hfq := fracB_of (ratioB_of HC.out).1
          have hq0 := hfq.1
          have hq1 := hfq.2.1
          clear hfq
          go_wp2_with fail
          go_loopw [9, 36] (fun l i wr => ∃ (k : Nat) (A2 : Option Addr) (c2 : Nat) (acc : List Int) (a : Int) (ok : Bool), k ≤ n ∧ i = .int .i64 k ∧ l = .slice A2 k c2 ∧ acc.length = k ∧ 0 ≤ a ∧ a ≤ 1000000 ∧ Hid ((ok = true → T = noiF (fun a => geoM s p q a) (xs.drop k) acc a) ∧ (ok = false → T = none)) ∧ OwnI wr w4.heap.size wr.heap.size A2 k c2 acc ∧ RdrAt wr g s a ok ∧ wr.heap[w.heap.size]? = some (.cells #[.int .i64 p, .int .i64 q] 28 (0, 0)) ∧ w4.heap.size ≤ wr.heap.size ∧ Below w.heap.size w wr) (fun _ i _ => n - (intOf i).toNat)
          case atStart => exact ⟨0, none, 0, [], 0, true, Nat.zero_le _, rfl, rfl, rfl, by omega, by omega, Lib.hid ⟨fun _ => HT.out, fun h9 => (by cases h9)⟩, ⟨Own.nil_, fun k hk => by simp [rowOf] at hk, by omega⟩, hr, x0, Nat.le_refl _, b0⟩
          case round =>
            clear hr x0 b0
            obtain ⟨k, A2, c2, acc, a, ok, hk, rfl, rfl, hacc, ha0, ha1, hT, hO, hr, x0, hz5, hb⟩ := hrel
            by_cases hlt : k < n
            · obtain ⟨ad, rfl, hc⟩ := (hx0.below hb).at_ hlt
              have hrr := allN_at HA3.out hl.out hlt
              have hdr := Lib.hid (drop_at hl.out hlt)
              obtain ⟨x, hxe⟩ : ∃ x, xs[k]?.getD 0 = x := ⟨_, rfl⟩
              rw [hxe] at hc hrr hdr
              clear hxe
              have HACC := Lib.hid hacc
              clear hacc
              have hr0 := hrr.1
              have hr1 := hrr.2
              clear hrr
              have c0 := box_cell x0 0 _ rfl
              have c1 := box_cell x0 1 _ rfl
              go_wp2_with fail
              refine (kgeo_any _ _ _ _ _ _ _ hr ha0 ha1 hq0 hq1).mono ?_
              rintro e w5 ⟨hyes, hno, hch⟩
              replace x0 := box_chg x0 hch (.inl (by omega))
              replace hO := hO.chg hch (.inr (by omega))
              have hz6 := hch.size
              replace hb := hch.below hb (by omega) (by omega)
              clear hch hr c0 c1 hc
              have HU : ∃ (v b2 : Int) (ok2 : Bool), e = .returned (.int .i64 v) ∧ -1000000 ≤ v ∧ v ≤ 1000000 ∧ RdrAt w5 g s b2 ok2 ∧ 0 ≤ b2 ∧ b2 ≤ 1000000 ∧ Hid ((ok2 = true → T = noiF (fun a => geoM s p q a) (xs.drop (k + 1)) (acc ++ [x + v]) b2) ∧ (ok2 = false → T = none)) := by
                cases ok
                · obtain ⟨he, b2, hr2, h0, h1⟩ := hno (if_neg (by simp))
                  exact ⟨0, b2, false, he, by omega, by omega, hr2, h0, h1, Lib.hid ⟨fun h9 => (by cases h9), fun _ => hT.out.2 rfl⟩⟩
                · cases hM : geoM s p q a with
                  | none =>
                    obtain ⟨he, b2, hr2, h0, h1⟩ := hno ((if_pos rfl).trans hM)
                    exact ⟨0, b2, false, he, by omega, by omega, hr2, h0, h1, Lib.hid ⟨fun h9 => (by cases h9), fun _ => (hT.out.1 rfl).trans ((congrArg (fun l => noiF (fun a => geoM s p q a) l acc a) hdr.out).trans (noiF_none hM))⟩⟩
                  | some r =>
                    obtain ⟨v, b2⟩ := r
                    obtain ⟨he, hr2⟩ := hyes v b2 ((if_pos rfl).trans hM)
                    have hv := geoM_bd hM ha0 ha1
                    exact ⟨v, b2, true, he, by omega, by omega, hr2, by omega, by omega, Lib.hid ⟨fun _ => (hT.out.1 rfl).trans ((congrArg (fun l => noiF (fun a => geoM s p q a) l acc a) hdr.out).trans (noiF_some hM)), fun h9 => (by cases h9)⟩⟩
              obtain ⟨v, b2, ok2, rfl, hv0, hv1, hr2, hb20, hb21, hT2⟩ := HU
              clear hyes hno hT hdr
              go_wp2_with (at_builtin; refine wp_app1 rfl _ _ rfl w4.heap.size A2 k c2 _ rfl hO.own _ rfl rfl (by omega) (by omega) ?_; intro A3 c3 w6 hown2 hg2 _)
              have hb6 := below_write hb hg2 (by omega) (fun j hj => by have := (hO.row j hj).1; omega)
              have hrow : ∀ j, some j = rowOf A2 → w4.heap.size ≤ j := fun j hj => (hO.row j hj.symm).1
              have hr6 : RdrAt w6 g s b2 ok2 := (hg2.block g hr2.lt (fun e => by have := hrow g e; omega)).trans hr2
              have x6 := (hg2.block _ (lt_of_block x0) (fun e => by have := hrow _ e; omega)).trans x0
              have hO6 := OwnI.of_own hown2 (by omega)
              have hz7 := hg2.size
              clear hO hr2 x0 hb hg2 hown2
              go_wp2
              go_roundw
              case rel => exact ⟨k + 1, A3, c3, acc ++ [x + v], b2, ok2, by omega, by go_num, rfl, by simp [HACC.out], hb20, hb21, hT2, hO6, hr6, x6, by omega, hb6⟩
              case measure => simp [intOf]; omega
            · obtain rfl : n = k := by omega
              have HL := Lib.hid hacc.symm
              have c2' := box_cell hr 2 _ rfl
              cases ok
              · have E2 := Lib.hid (E.out.trans (M1.out (hT.out.2 rfl)))
                clear hO hT
                go_wp2
                go_ret2
                exact LPost.no E2.out hb
              · have ET : Hid (T = some acc) := Lib.hid (by rw [hT.out.1 rfl, List.drop_eq_nil_of_le (by rw [hl.out]; exact Nat.le_refl _)]; rfl)
                clear hT
                have N1 := Lib.hid (fun h => E.out.trans (M2.out acc ET.out h))
                have N2 := Lib.hid (fun h => E.out.trans (M3.out acc ET.out h))
                clear hacc
                go_wp2_with fail
                refine (l1All_any _ _ _ acc _ _ _ hO.ints (by omega)).mono ?_
                rintro e w7 ⟨rfl, rfl⟩
                cases hA : allR acc (-1000000000) 1000000000
                · have E2 := Lib.hid (N1.out hA)
                  clear N1 N2 hA
                  go_wp2
                  go_ret2
                  exact LPost.no E2.out hb
                · have E2 := Lib.hid (N2.out hA)
                  have HO := Lib.hid (OwnI.fit hO (by omega) : OwnI wr w.heap.size wr.heap.size _ _ _ _)
                  clear N1 N2 hA hO
                  go_wp2
                  go_ret2
                  exact LPost.yes E2.out HL.out HO.out hb
  · have E := Lib.hid (R1.out (HB1.out hm))
    have hm2 : 100 < (n : Int) := by omega
    clear hx hx0
    go_enter Try.func11, Try.ntmps11
    go_wp2
    go_ret2
    exact LPost.no E.out b0
end Go.Proofs.Ytfkdmddfadkjoaa
