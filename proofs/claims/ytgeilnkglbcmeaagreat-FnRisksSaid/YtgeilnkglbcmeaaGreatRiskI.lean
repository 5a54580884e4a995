/- LinkRisk, of the program. -/
import Derived.Test.YtgeilnkglbcmeaaGreatRisk
namespace Go.Proofs.YtgeilnkglbcmeaaGreat
open Go.RowKit

theorem int_frac {l : Nat} (h2 : l ≤ 1000000) : fracB (l : Nat) 1 = true :=
  fracB_4 (by decide) (inR_yes (by omega) (by omega)) (by simp)

set_option maxRecDepth 100000 in
set_option maxHeartbeats 4000000 in
theorem implLinkRisk_law (A B C U : Option Addr) (n c m d m2 d2 l k' : Nat) (vs : List (ByteArray × Int)) (rs qs : List RecD) (us : List Int) (w : World) (hx : SchR w A n c vs) (hy : DatR w B m rs) (hz : DatR w C m2 qs) (hu : IntR w U l us) :
    Calls Tryz.prog 6 #[.slice A n c, .slice B m d, .slice C m2 d2, .slice U l k'] w (RetFr w (riskO vs rs qs us)) := by
  have hlen := hx.len
  cases hB : linkedB vs rs qs us
  · have HR := Lib.hid (fr_none (show riskO vs rs qs us = none by unfold riskO; rw [if_neg (by simp [hB])]))
    have HB := Lib.hid hB
    clear hB hlen
    have x0 := box_new w #[.int .i64 0, .int .i64 0] 30
    have b0 := below_new w (.cells #[.int .i64 0, .int .i64 0] 30)
    go_enter Tryz.func6, Tryz.ntmps6
    go_wp2_with fail
    generalize w.alloc (.cells #[.int .i64 0, .int .i64 0] 30) = w1 at *
    refine (areLinked_any _ _ _ _ n _ _ _ _ _ l _ vs rs qs us _ (hx.below b0) (hy.below b0) (hz.below b0) (hu.below b0)).mono ?_
    rintro e w2 ⟨rfl, b1⟩
    rw [HB.out]
    replace x0 := box_below x0 b1
    have b2 := b0.trans (b1.mono b0.size)
    have x0c0 := box_cell x0 0 _ rfl
    have x0c1 := box_cell x0 1 _ rfl
    have x0f0 := box_free x0 0
    have x0f1 := box_free x0 1
    have y0 := store_two x0 (.int .i64 0) (.int .i64 0)
    have e0 := box_cell y0 0 _ rfl
    have e1 := box_cell y0 1 _ rfl
    clear b0 b1 hx hy hz hu
    go_wp2
    refine bodyPost_ret (v := .tuple #[.agg #[.int .i64 (0), .int .i64 (0)], .bool false]) (by simp [results, Tryz.results6, go_sem, e0, e1]) rfl ⟨by rw [HR.out.1, HR.out.2.1, HR.out.2.2], below_two b2 (Nat.le_refl _)⟩
  have HB := Lib.hid hB
  obtain ⟨hk, hk2⟩ := linked_all hlen hB
  have hm40 : m ≤ 40 := by have := hk.forty; rw [hy.len] at this; exact this
  have hm240 : m2 ≤ 40 := by have := hk2.forty; rw [hz.len] at this; exact this
  have hml := Lib.hid hy.len
  have hzl := Lib.hid hz.len
  have HLE := Lib.hid (fun i => (show (setL vs us rs qs i).length ≤ 40 by have := linkK_len (lnk vs us rs qs i) qs.length; rw [hzl.out] at this; unfold setL; rw [hzl.out]; omega))
  by_cases hc0 : m = 0
  · have HR := Lib.hid (fr_none (show riskO vs rs qs us = none by unfold riskO; rw [if_neg (by simp [hml.out, hc0])]))
    subst hc0
    clear hB hlen hk hk2
    have x0 := box_new w #[.int .i64 0, .int .i64 0] 30
    have b0 := below_new w (.cells #[.int .i64 0, .int .i64 0] 30)
    go_enter Tryz.func6, Tryz.ntmps6
    go_wp2_with fail
    generalize w.alloc (.cells #[.int .i64 0, .int .i64 0] 30) = w1 at *
    refine (areLinked_any _ _ _ _ n _ _ _ _ _ l _ vs rs qs us _ (hx.below b0) (hy.below b0) (hz.below b0) (hu.below b0)).mono ?_
    rintro e w2 ⟨rfl, b1⟩
    rw [HB.out]
    replace x0 := box_below x0 b1
    have b2 := b0.trans (b1.mono b0.size)
    have x0c0 := box_cell x0 0 _ rfl
    have x0c1 := box_cell x0 1 _ rfl
    have x0f0 := box_free x0 0
    have x0f1 := box_free x0 1
    have y0 := store_two x0 (.int .i64 0) (.int .i64 0)
    have e0 := box_cell y0 0 _ rfl
    have e1 := box_cell y0 1 _ rfl
    clear b0 b1 hx hy hz hu
    go_wp2
    refine bodyPost_ret (v := .tuple #[.agg #[.int .i64 (0), .int .i64 (0)], .bool false]) (by simp [results, Tryz.results6, go_sem, e0, e1]) rfl ⟨by rw [HR.out.1, HR.out.2.1, HR.out.2.2], below_two b2 (Nat.le_refl _)⟩
  have hq : ((m : Int) == 0) = false := by rw [beq_eq_false_iff_ne]; omega
  have HR0 : Hid (riskO vs rs qs us = (sumO (riskB (setL vs us rs qs)) (lenN (setL vs us rs qs)) m).bind fun x => divO x.1 x.2 (m : Nat) 1) := Lib.hid (by unfold riskO; rw [if_pos ⟨HB.out, by rw [hml.out]; omega⟩, hml.out]; rfl)
  rw [HR0.out]
  obtain ⟨S, hS⟩ : ∃ S, Hid (S = setL vs us rs qs) := ⟨_, Lib.hid rfl⟩
  rw [← hS.out]
  rw [← hS.out] at HLE
  clear hB hlen HR0
  have x0 := box_new w #[.int .i64 0, .int .i64 0] 30
  have b0 := below_new w (.cells #[.int .i64 0, .int .i64 0] 30)
  go_enter Tryz.func6, Tryz.ntmps6
  go_wp2_with fail
  generalize w.alloc (.cells #[.int .i64 0, .int .i64 0] 30) = w1 at *
  refine (areLinked_any _ _ _ _ n _ _ _ _ _ l _ vs rs qs us _ (hx.below b0) (hy.below b0) (hz.below b0) (hu.below b0)).mono ?_
  rintro e w2 ⟨rfl, b1⟩
  rw [HB.out]
  replace x0 := box_below x0 b1
  have b2 := b0.trans (b1.mono b0.size)
  clear b1
  have X0 := Lib.hid x0
  clear x0
  go_wp2_with fail
  refine (linkSets_any _ _ _ _ n _ m _ m2 _ l _ vs rs qs us _ (hx.below b2) (hy.below b2) (hz.below b2) (hu.below b2) hk hk2).mono ?_
  rintro e w3 ⟨A1, c1, rfl, o1, b3⟩
  have x0 := box_below X0.out b3
  have b4 := b2.trans (b3.mono b2.size)
  rw [← hS.out] at o1
  have O1 := Lib.hid o1.read
  clear hx hy hz hu hk hk2 b0 b2 b3 o1 X0
  have X0 := Lib.hid x0
  clear x0
  go_wp2_with fail
  refine (sumOf_risk _ m _ S _ O1.out hm40 HLE.out).mono ?_
  rintro e w4 ⟨rfl, b5⟩
  have x0 := box_below X0.out b5
  have b6 := b4.trans (b5.mono b4.size)
  clear X0 b4 b5 O1 HLE
  cases hM : sumO (riskB S) (lenN S) m with
  | none =>
    have HR := Lib.hid (fr_none (show ((sumO (riskB S) (lenN S) m).bind fun x => divO x.1 x.2 (m : Nat) 1) = none by rw [hM]; rfl))
    clear hM
    simp only [fN, fD, fB]
    have b7 := below_new w4 (.cells #[.int .i64 0, .int .i64 0] 30)
    replace x0 := box_below x0 b7
    replace b7 := b6.trans (b7.mono b6.size)
    have x0c0 := box_cell x0 0 _ rfl
    have x0c1 := box_cell x0 1 _ rfl
    have x0f0 := box_free x0 0
    have x0f1 := box_free x0 1
    have y0 := store_two x0 (.int .i64 0) (.int .i64 0)
    have e0 := box_cell y0 0 _ rfl
    have e1 := box_cell y0 1 _ rfl
    clear b6
    go_wp2
    refine bodyPost_ret (v := .tuple #[.agg #[.int .i64 (0), .int .i64 (0)], .bool false]) (by simp [results, Tryz.results6, go_sem, e0, e1]) rfl ⟨by rw [HR.out.1, HR.out.2.1, HR.out.2.2], below_two b7 (Nat.le_refl _)⟩
  | some r =>
    obtain ⟨p, q⟩ := r
    have HF := Lib.hid (sumO_frac hM)
    have HG := Lib.hid (int_frac (show m ≤ 1000000 by omega))
    have HRR := Lib.hid (show ((sumO (riskB S) (lenN S) m).bind fun x => divO x.1 x.2 (m : Nat) 1) = divO p q (m : Nat) 1 by rw [hM]; rfl)
    clear hM
    simp only [fN, fD, fB]
    have b7 := below_new w4 (.cells #[.int .i64 p, .int .i64 q] 30)
    replace x0 := box_below x0 b7
    have x10 := box_new w4 #[.int .i64 p, .int .i64 q] 30
    replace b7 := b6.trans (b7.mono b6.size)
    clear b6
    have x10c0 := box_cell x10 0 _ rfl
    have x10c1 := box_cell x10 1 _ rfl
    have X0 := Lib.hid x0
    clear x0
    go_wp2_with fail
    refine (divFrac_any p q m 1 _ HF.out HG.out).mono ?_
    rintro e w5 ⟨rfl, b8⟩
    have x0 := box_below X0.out b8
    have b9 := b7.trans (b8.mono b7.size)
    clear x10 x10c0 x10c1 X0 b7 b8
    have x0c0 := box_cell x0 0 _ rfl
    have x0c1 := box_cell x0 1 _ rfl
    have x0f0 := box_free x0 0
    have x0f1 := box_free x0 1
    have y0 := store_two x0 (.int .i64 (fN (divO p q m 1))) (.int .i64 (fD (divO p q m 1)))
    have e0 := box_cell y0 0 _ rfl
    have e1 := box_cell y0 1 _ rfl
    go_wp2
    refine bodyPost_ret (v := .tuple #[.agg #[.int .i64 (fN (divO p q m 1)), .int .i64 (fD (divO p q m 1))], .bool (fB (divO p q m 1))]) (by simp [results, Tryz.results6, go_sem, e0, e1]) rfl ⟨by rw [HRR.out], below_two b9 (Nat.le_refl _)⟩
end Go.Proofs.YtgeilnkglbcmeaaGreat
