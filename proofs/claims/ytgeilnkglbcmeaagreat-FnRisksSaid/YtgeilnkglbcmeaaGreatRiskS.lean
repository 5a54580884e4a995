/- LinkRisk, of the reference. -/
import Derived.Test.YtgeilnkglbcmeaaGreatRiskO
namespace Go.Proofs.YtgeilnkglbcmeaaGreat
open Go.RowKit

set_option maxRecDepth 100000 in
set_option maxHeartbeats 4000000 in
theorem specLinkRisk_law (A B C U : Option Addr) (n c m d m2 d2 l k' : Nat) (vs : List (ByteArray × Int)) (rs qs : List RecD) (us : List Int) (w : World) (hx : SchR w A n c vs) (hy : DatR w B m rs) (hz : DatR w C m2 qs) (hu : IntR w U l us) :
    Calls Tryz.prog 7 #[.slice A n c, .slice B m d, .slice C m2 d2, .slice U l k'] w (RetFr w (riskO vs rs qs us)) := by
  have hlen := hx.len
  cases hB : linkedB vs rs qs us
  · have HR := Lib.hid (fr_none (show riskO vs rs qs us = none by unfold riskO; rw [if_neg (by simp [hB])]))
    have HB := Lib.hid hB
    clear hB hlen
    have x0 := box_new w #[.int .i64 0, .int .i64 0] 30
    have b0 := below_new w (.cells #[.int .i64 0, .int .i64 0] 30)
    go_enter Tryz.func7, Tryz.ntmps7
    go_wp2_with fail
    generalize w.alloc (.cells #[.int .i64 0, .int .i64 0] 30) = w1 at *
    refine (liTwo_any _ _ _ _ n _ _ _ _ _ l _ vs rs qs us _ (hx.below b0) (hy.below b0) (hz.below b0) (hu.below b0)).mono ?_
    rintro e w2 ⟨rfl, b1⟩
    rw [HB.out]
    replace x0 := box_below x0 b1
    have b2 := b0.trans (b1.mono b0.size)
    have x0c0 := box_cell x0 0 _ rfl
    have x0c1 := box_cell x0 1 _ rfl
    have x0f0 := box_free x0 0
    have x0f1 := box_free x0 1
    have y0 := store_two x0 (.int .i64 0) (.int .i64 0)
    have e0 := box_cell y0 0 _ rfl
    have e1 := box_cell y0 1 _ rfl
    clear b0 b1 hx hy hz hu
    go_wp2
    refine bodyPost_ret (v := .tuple #[.agg #[.int .i64 (0), .int .i64 (0)], .bool false]) (by simp [results, Tryz.results7, go_sem, e0, e1]) rfl ⟨by rw [HR.out.1, HR.out.2.1, HR.out.2.2], below_two b2 (Nat.le_refl _)⟩
  have HB := Lib.hid hB
  obtain ⟨hk, hk2⟩ := linked_all hlen hB
  have hm40 : m ≤ 40 := by have := hk.forty; rw [hy.len] at this; exact this
  have hm240 : m2 ≤ 40 := by have := hk2.forty; rw [hz.len] at this; exact this
  have hml := Lib.hid hy.len
  have hzl := Lib.hid hz.len
  have HLE := Lib.hid (fun i => (show (setL vs us rs qs i).length ≤ 40 by have := linkK_len (lnk vs us rs qs i) qs.length; rw [hzl.out] at this; unfold setL; rw [hzl.out]; omega))
  by_cases hc0 : m = 0
  · have HR := Lib.hid (fr_none (show riskO vs rs qs us = none by unfold riskO; rw [if_neg (by simp [hml.out, hc0])]))
    subst hc0
    clear hB hlen hk hk2
    have x0 := box_new w #[.int .i64 0, .int .i64 0] 30
    have b0 := below_new w (.cells #[.int .i64 0, .int .i64 0] 30)
    go_enter Tryz.func7, Tryz.ntmps7
    go_wp2_with fail
    generalize w.alloc (.cells #[.int .i64 0, .int .i64 0] 30) = w1 at *
    refine (liTwo_any _ _ _ _ n _ _ _ _ _ l _ vs rs qs us _ (hx.below b0) (hy.below b0) (hz.below b0) (hu.below b0)).mono ?_
    rintro e w2 ⟨rfl, b1⟩
    rw [HB.out]
    replace x0 := box_below x0 b1
    have b2 := b0.trans (b1.mono b0.size)
    have x0c0 := box_cell x0 0 _ rfl
    have x0c1 := box_cell x0 1 _ rfl
    have x0f0 := box_free x0 0
    have x0f1 := box_free x0 1
    have y0 := store_two x0 (.int .i64 0) (.int .i64 0)
    have e0 := box_cell y0 0 _ rfl
    have e1 := box_cell y0 1 _ rfl
    clear b0 b1 hx hy hz hu
    go_wp2
    refine bodyPost_ret (v := .tuple #[.agg #[.int .i64 (0), .int .i64 (0)], .bool false]) (by simp [results, Tryz.results7, go_sem, e0, e1]) rfl ⟨by rw [HR.out.1, HR.out.2.1, HR.out.2.2], below_two b2 (Nat.le_refl _)⟩
  have hq : ((m : Int) == 0) = false := by rw [beq_eq_false_iff_ne]; omega
  have HR0 : Hid (riskO vs rs qs us = (sumO (riskB (setL vs us rs qs)) (lenN (setL vs us rs qs)) m).bind fun x => divO x.1 x.2 (m : Nat) 1) := Lib.hid (by unfold riskO; rw [if_pos ⟨HB.out, by rw [hml.out]; omega⟩, hml.out]; rfl)
  rw [HR0.out]
  obtain ⟨S, hS⟩ : ∃ S, Hid (S = setL vs us rs qs) := ⟨_, Lib.hid rfl⟩
  rw [← hS.out]
  rw [← hS.out] at HLE
  have HP : Hid (∀ i, riskB S i = true → 1 ≤ (S i).length) := Lib.hid (fun i h => by have := of_decide_eq_true h; omega)
  clear hB hlen HR0
  have x0 := box_new w #[.int .i64 0, .int .i64 0] 30
  have b0 := below_new w (.cells #[.int .i64 0, .int .i64 0] 30)
  go_enter Tryz.func7, Tryz.ntmps7
  go_wp2_with fail
  generalize w.alloc (.cells #[.int .i64 0, .int .i64 0] 30) = w1 at *
  refine (liTwo_any _ _ _ _ n _ _ _ _ _ l _ vs rs qs us _ (hx.below b0) (hy.below b0) (hz.below b0) (hu.below b0)).mono ?_
  rintro e w2 ⟨rfl, b1⟩
  rw [HB.out]
  replace x0 := box_below x0 b1
  have b2 := b0.trans (b1.mono b0.size)
  clear b1
  have X0 := Lib.hid x0
  clear x0
  go_wp2_with fail
  refine (fInt_any 0 _).mono ?_
  rintro e w3 ⟨rfl, b3⟩
  have b4 := below_new w3 (.cells #[.int .i64 0, .int .i64 1] 30)
  have x10 := box_new w3 #[.int .i64 0, .int .i64 1] 30
  have x0 := box_below (box_below X0.out b3) b4
  have hg := Nat.lt_of_lt_of_le (lt_of_block X0.out) b3.size
  have b5 := b2.trans ((b3.trans (b4.mono b3.size)).mono b2.size)
  clear b0 b2 b3 b4 X0
  have X0 := Lib.hid x0
  have X10 := Lib.hid x10
  clear x0 x10
  go_wp2_with fail
  have hlo4 : w3.heap.size + 1 ≤ (w3.alloc (.cells #[.int .i64 0, .int .i64 1] 30)).heap.size := by simp
  generalize w3.alloc (.cells #[.int .i64 0, .int .i64 1] 30) = w4 at *
  have hlo : w3.heap.size + 1 ≤ w4.heap.size := hlo4
  generalize w3.heap.size = g10 at *
  refine (liSets_any _ _ _ _ n _ m _ m2 _ l _ vs rs qs us _ (hx.below b5) (hy.below b5) (hz.below b5) (hu.below b5) hk hk2).mono ?_
  rintro e w5 ⟨A1, c1, rfl, o1, b6⟩
  have Y0 := Lib.hid (box_below X0.out b6)
  have Y10 := Lib.hid (box_below X10.out b6)
  have HB5 := Lib.hid (b5.trans (b6.mono b5.size))
  rw [← hS.out] at o1
  have OO := Lib.hid (o1.fit hlo)
  clear hx hy hz hu hk hk2 b5 b6 o1 X0 X10
  go_wp2_with fail
  go_loopw [34] (fun i wr => ∃ (j : Nat) (p q : Int), j ≤ m ∧ i = .int .i64 j ∧ Hid (sumO (riskB S) (lenN S) j = some (p, q)) ∧ Hid (wr.heap[w.heap.size]? = some (.cells #[.int .i64 0, .int .i64 0] 30 (0, 0))) ∧ Hid (wr.heap[g10]? = some (.cells #[.int .i64 p, .int .i64 q] 30 (0, 0))) ∧ Hid (OwnII wr (g10 + 1) w5.heap.size A1 m c1 S) ∧ Hid (Below w.heap.size w wr)) (fun i _ => m - (intOf i).toNat)
  case atStart => exact ⟨0, 0, 1, Nat.zero_le _, rfl, Lib.hid rfl, Y0, Y10, OO, HB5⟩
  case round =>
    clear Y0 Y10 HB5 OO
    obtain ⟨j, p, q, hj, rfl, HM, X0, X10, HO, HB⟩ := hrel
    obtain ⟨w7, rfl⟩ : ∃ w7 : World, w7 = wr := ⟨_, rfl⟩
    by_cases hlt : j < m
    · obtain ⟨ad, rfl, V, cv, hc, hv⟩ := HO.out.read.at_ hlt
      have hle := HLE.out j
      have HV := Lib.hid hv
      have hx1 := lt_of_block X10.out
      clear hv
      cases hp : riskB S j
      · have HM2 := Lib.hid (sumO_no HM.out hp)
        have hq0 : ((((S j).length : Nat) : Int) == 0) = true := by have := of_decide_eq_false hp; rw [show (S j).length = 0 by omega]; rfl
        clear hp
        go_wp2
        go_roundw
        case rel => exact ⟨j + 1, p, q, by omega, by go_num, HM2, X0, X10, HO, HB⟩
        case measure => simp [intOf]; omega
      · have hps := HP.out j hp
        have HM2 := Lib.hid (sumO_yes HM.out hp)
        have HF := Lib.hid (fracB_sm (sumO_frac HM.out))
        have HS1 := Lib.hid (sm_of (x := 1) (by omega) (by omega))
        have HSL := Lib.hid (sm_of (x := ((S j).length : Nat)) (by omega) (by omega))
        rw [show ((lenN S j : Nat) : Int) = (((S j).length : Nat) : Int) from rfl] at HM2
        have x1c0 := box_cell X10.out 0 _ rfl
        have x1c1 := box_cell X10.out 1 _ rfl
        have hq0 : ((((S j).length : Nat) : Int) == 0) = false := by rw [beq_eq_false_iff_ne]; omega
        clear hp
        go_wp2_with fail
        refine (fAdd_o _ _ _ _ _ HF.out.1 HF.out.2.1 HS1.out HSL.out).mono ?_
        rintro e w8 ⟨rfl, b8⟩
        clear x1c0 x1c1
        have Z0 := Lib.hid (box_below X0.out b8)
        have Z1 := Lib.hid (box_below X10.out b8)
        have HO8 := Lib.hid (HO.out.below b8)
        have HB8 := Lib.hid (HB.out.trans (b8.mono HB.out.size))
        have hsz8 := b8.size
        clear X0 X10 HB b8 HO
        cases hM : addO p q 1 ((S j).length : Nat) with
        | none =>
          have HR := Lib.hid (fr_none (show ((sumO (riskB S) (lenN S) m).bind fun x => divO x.1 x.2 (m : Nat) 1) = none by rw [sumO_stop (m := m) (HM2.out.trans hM) (by omega)]; rfl))
          clear hM
          simp only [fN, fD, fB]
          have b6 := below_new w8 (.cells #[.int .i64 0, .int .i64 0] 30)
          have x0 := box_below Z0.out b6
          have HB6 := Lib.hid (HB8.out.trans (b6.mono HB8.out.size))
          have x0c0 := box_cell x0 0 _ rfl
          have x0c1 := box_cell x0 1 _ rfl
          have x0f0 := box_free x0 0
          have x0f1 := box_free x0 1
          have y0 := store_two x0 (.int .i64 0) (.int .i64 0)
          have e0 := box_cell y0 0 _ rfl
          have e1 := box_cell y0 1 _ rfl
          clear b6
          go_wp2
          refine bodyPost_ret (v := .tuple #[.agg #[.int .i64 (0), .int .i64 (0)], .bool false]) (by simp [results, Tryz.results7, go_sem, e0, e1]) rfl ⟨by rw [HR.out.1, HR.out.2.1, HR.out.2.2], below_two HB6.out (Nat.le_refl _)⟩
        | some r =>
          obtain ⟨a, b⟩ := r
          have HM3 := Lib.hid (HM2.out.trans hM)
          clear hM HM2
          simp only [fN, fD, fB]
          have b6 := below_new w8 (.cells #[.int .i64 a, .int .i64 b] 30)
          have x0 := box_below Z0.out b6
          have x1 := box_below Z1.out b6
          have x9 := box_new w8 #[.int .i64 a, .int .i64 b] 30
          have x1c0 := box_cell x1 0 _ rfl
          have x1c1 := box_cell x1 1 _ rfl
          have x1f0 := box_free x1 0
          have x1f1 := box_free x1 1
          have x9c0 := box_cell x9 0 _ rfl
          have x9c1 := box_cell x9 1 _ rfl
          have Y0' := Lib.hid (set_other (g := g10) (u := .int .i64 a) (v := .int .i64 b) x0 (by omega))
          have Y1' := Lib.hid (store_two x1 (.int .i64 a) (.int .i64 b))
          have HO' := Lib.hid ((HO8.out.below b6).two (g := g10) (u := .int .i64 a) (v := .int .i64 b) (by omega))
          have HB6 := Lib.hid (below_two (g := g10) (u := .int .i64 a) (v := .int .i64 b) (HB8.out.trans (b6.mono HB8.out.size)) (by omega))
          clear b6 x0
          go_wp2
          go_roundw
          case rel => exact ⟨j + 1, a, b, by omega, by go_num, HM3, Y0', Y1', HO', HB6⟩
          case measure => simp [intOf]; omega
    · obtain rfl : j = m := by omega
      have HRR := Lib.hid (show ((sumO (riskB S) (lenN S) j).bind fun x => divO x.1 x.2 (j : Nat) 1) = divO p q (j : Nat) 1 by rw [HM.out]; rfl)
      have HF := Lib.hid (fracB_sm (sumO_frac HM.out))
      have HS1 := Lib.hid (sm_of (x := 1) (by omega) (by omega))
      have HSL := Lib.hid (sm_of (x := (j : Nat)) (by omega) (by omega))
      have B90 := (Below.refl w7.heap.size w7).drew
      have x10k90 : w7.drew.heap[g10]? = _ := X10.out
      have x0k90 : w7.drew.heap[w.heap.size]? = _ := X0.out
      clear HM HP HLE
      go_wp2
      go_region_held3 (fun w' => w'.cell? ⟨g10, 0, none⟩ = some (.int .i64 p) ∧ w'.cell? ⟨g10, 1, none⟩ = some (.int .i64 q)) (first | exact ⟨x10c092, x10c192⟩ | exact ⟨x10c091, x10c191⟩ | exact ⟨box_cell x10k90 0 _ rfl, box_cell x10k90 1 _ rfl⟩ | exact ⟨cell_two x10c092 (by omega), cell_two x10c192 (by omega)⟩ | go_keep) (first
        | (go_at_call 27; refine (fInt_any _ _).mono ?_; rintro e w91 ⟨rfl, b91⟩; have B91 := keepB B90 (Nat.le_refl _) b91; have x10k91 := box_below x10k90 b91; have x0k91 := box_below x0k90 b91; have x10c091 := box_cell x10k91 0 _ rfl; have x10c191 := box_cell x10k91 1 _ rfl)
        | (go_at_call 30; refine (fDiv_any _ _ _ _ _ HF.out.1 HF.out.2.1 HSL.out HS1.out).mono ?_; rintro e w92 ⟨rfl, b92⟩; have B92 := keepB B91 (Nat.le_refl _) b92; have x10k92 := box_below x10k91 b92; have x0k92 := box_below x0k91 b92; have x10c092 := box_cell x10k92 0 _ rfl; have x10c192 := box_cell x10k92 1 _ rfl; have z0 := box_cell x0k92 0 _ rfl; have z1 := box_cell x0k92 1 _ rfl; have z2 := box_free x0k92 0; have z3 := box_free x0k92 1; have y0 := store_two x0k92 (.int .i64 (fN (divO p q j 1))) (.int .i64 (fD (divO p q j 1))); have e0 := box_cell y0 0 _ rfl; have e1 := box_cell y0 1 _ rfl; have Bf := HB.out.trans (B92.mono HB.out.size)))
      all_goals (go_wp2; refine bodyPost_ret (v := .tuple #[.agg #[.int .i64 (fN (divO p q j 1)), .int .i64 (fD (divO p q j 1))], .bool (fB (divO p q j 1))]) (by simp [results, Tryz.results7, go_sem, e0, e1]) rfl ⟨by rw [HRR.out], below_two Bf (Nat.le_refl _)⟩)
end Go.Proofs.YtgeilnkglbcmeaaGreat
