/- KeyedTable, of the program and of the reference. -/
import Derived.Test.YtgeilnkglbcmeaaTabQ
import Derived.Test.YtgeilnkglbcmeaaTabK
import Derived.Test.YtgeilnkglbcmeaaCellsL
namespace Go.Proofs.Ytgeilnkglbcmeaa
open Go.RowKit

def ktB (n0 : Nat) (S : Nat → List Int) (sd : Int) (vs : List (ByteArray × Int)) (rs : List RecD) (us : List Int) : Bool := nzTab n0 S && (kcB sd vs rs us && decide (cellsN vs us ≤ 1000))
def ktR (n0 : Nat) (S : Nat → List Int) (sd : Int) (vs : List (ByteArray × Int)) (rs : List RecD) (us : List Int) : List Int :=
  if ktB n0 S sd vs rs us = true then tabl (cellsN vs us) (nzP n0 S (cellsC vs us rs (cellsN vs us) rs.length) (cellsK sd vs us rs (cellsN vs us) rs.length)) else []
theorem cellsK_all (sd : Int) (vs : List (ByteArray × Int)) (us : List Int) (rs : List RecD) (N j : Nat) : allR (cellsK sd vs us rs N j) 0 65535 = true :=
  allR_all fun k _ => by have := cellsK_bd sd vs us rs N j k; unfold inR; simp; omega
theorem cellsC_rng (vs : List (ByteArray × Int)) (us : List Int) (rs : List RecD) (N j : Nat) (h : j ≤ 40) : ∀ t, t < N → 0 ≤ (cellsC vs us rs N j)[t]?.getD 0 ∧ (cellsC vs us rs N j)[t]?.getD 0 ≤ 1000000 := fun t _ => by
  have := cellsC_bd vs us rs N j t
  omega

set_option maxHeartbeats 2000000 in
/-- More than a thousand counts are refused. -/
theorem perturb_big (A C D : Option Addr) (n c m d d2 : Nat) (S : Nat → List Int) (w : World) (hs : IntsS w A n S) (ht : nzTab n S = true) (hm : ¬ m ≤ 1000) (hm2 : m ≤ 1099511627776) :
    Calls Try.prog 33 #[.agg #[.slice A n c], .slice C m d, .slice D m d2] w (RetInts w [] false) := by
  obtain ⟨h1, h2⟩ := nzTab_of ht
  have HT := Lib.hid ht
  have HL2 := Lib.hid (fun j (hj : j < n) => (show (S j).length ≤ 1099511627776 by have := (h2 j hj).1; omega))
  have x0 := box_new w #[.slice A n c] 33
  have b0 := below_new w (.cells #[.slice A n c] 33)
  have xc := box_cell x0 0 _ rfl
  have hd1 : decide ((1000 : Int) < (m : Int)) = true := by simp; omega
  have HS := Lib.hid (hs.below b0)
  clear h2 ht hs hm x0
  go_enter Try.func33, Try.ntmps33
  go_wp2_with fail
  generalize w.alloc (.cells #[.slice A n c] 33) = w1 at *
  refine (isNoise_any _ n c S _ HS.out (by omega) HL2.out).mono ?_
  rintro e w2 ⟨rfl, b1⟩
  rw [HT.out]
  have B2 := Lib.hid (b0.trans (b1.mono b0.size))
  clear xc b0 b1
  go_wp2
  go_ret2
  exact ⟨none, 0, rfl, OwnI.nil_, B2.out⟩


set_option maxRecDepth 100000 in
set_option maxHeartbeats 2000000 in
theorem specKT_no1 (sd : Int) (T0 : Option Addr) (n0 c0 : Nat) (A B U : Option Addr) (n c m d l k' : Nat) (S : Nat → List Int) (vs : List (ByteArray × Int)) (rs : List RecD) (us : List Int) (w : World) (hs : IntsS w T0 n0 S) (hn0 : n0 ≤ 1099511627776) (hl0 : ∀ j, j < n0 → (S j).length ≤ 1099511627776) (hx : SchR w A n c vs) (hy : DatR w B m rs) (hu : IntR w U l us) (h1 : nzTab n0 S = false) :
    Calls Try.prog 9 #[.agg #[.slice T0 n0 c0], .int .i64 sd, .slice A n c, .slice B m d, .slice U l k'] w (RetInts w (ktR n0 S sd vs rs us) (ktB n0 S sd vs rs us)) := by
  have x0 := box_new w #[.slice T0 n0 c0] 33
  have b0 := below_new w (.cells #[.slice T0 n0 c0] 33)
  have xc := box_cell x0 0 _ rfl
  have hlen := Lib.hid hx.len
  have hml := Lib.hid hy.len
  have hul := Lib.hid hu.len
  have HL := Lib.hid hl0
  replace hs := hs.below b0
  replace hx := hx.below b0
  replace hy := hy.below b0
  replace hu := hu.below b0
  clear hl0
  have H1 := Lib.hid h1
  have RB : Hid (ktB n0 S sd vs rs us = false) := Lib.hid (by unfold ktB; simp [h1])
  have RR : Hid (ktR n0 S sd vs rs us = []) := Lib.hid (by unfold ktR; rw [RB.out]; rfl)
  rw [RB.out, RR.out]
  clear h1
  go_enter Try.func9, Try.ntmps9
  go_wp2_with fail
  generalize w.alloc (.cells #[.slice T0 n0 c0] 33) = w1 at *
  refine (yGood_any _ n0 _ S _ hs hn0 HL.out).mono ?_
  rintro e w2 ⟨rfl, b1⟩
  have B2 := Lib.hid (b0.trans (b1.mono b0.size))
  replace x0 := box_below x0 b1
  clear xc
  have xc := box_cell x0 0 _ rfl
  replace hs := hs.below b1
  replace hx := hx.below b1
  replace hy := hy.below b1
  replace hu := hu.below b1
  clear b1
  rw [H1.out]
  clear xc x0 hs hx hy hu
  go_wp2
  go_ret2
  exact ⟨none, 0, rfl, OwnI.nil_, B2.out⟩

set_option maxRecDepth 100000 in
set_option maxHeartbeats 2000000 in
theorem specKT_no2 (sd : Int) (T0 : Option Addr) (n0 c0 : Nat) (A B U : Option Addr) (n c m d l k' : Nat) (S : Nat → List Int) (vs : List (ByteArray × Int)) (rs : List RecD) (us : List Int) (w : World) (hs : IntsS w T0 n0 S) (hn0 : n0 ≤ 1099511627776) (hl0 : ∀ j, j < n0 → (S j).length ≤ 1099511627776) (hx : SchR w A n c vs) (hy : DatR w B m rs) (hu : IntR w U l us) (h1 : nzTab n0 S = true) (h2 : kcB sd vs rs us = false) :
    Calls Try.prog 9 #[.agg #[.slice T0 n0 c0], .int .i64 sd, .slice A n c, .slice B m d, .slice U l k'] w (RetInts w (ktR n0 S sd vs rs us) (ktB n0 S sd vs rs us)) := by
  have x0 := box_new w #[.slice T0 n0 c0] 33
  have b0 := below_new w (.cells #[.slice T0 n0 c0] 33)
  have xc := box_cell x0 0 _ rfl
  have hlen := Lib.hid hx.len
  have hml := Lib.hid hy.len
  have hul := Lib.hid hu.len
  have HL := Lib.hid hl0
  replace hs := hs.below b0
  replace hx := hx.below b0
  replace hy := hy.below b0
  replace hu := hu.below b0
  clear hl0
  have H1 := Lib.hid h1
  have H2 := Lib.hid h2
  have RB : Hid (ktB n0 S sd vs rs us = false) := Lib.hid (by unfold ktB; simp [h2])
  have RR : Hid (ktR n0 S sd vs rs us = []) := Lib.hid (by unfold ktR; rw [RB.out]; rfl)
  rw [RB.out, RR.out]
  clear h1 h2
  go_enter Try.func9, Try.ntmps9
  go_wp2_with fail
  generalize w.alloc (.cells #[.slice T0 n0 c0] 33) = w1 at *
  refine (yGood_any _ n0 _ S _ hs hn0 HL.out).mono ?_
  rintro e w2 ⟨rfl, b1⟩
  have B2 := Lib.hid (b0.trans (b1.mono b0.size))
  replace x0 := box_below x0 b1
  clear xc
  have xc := box_cell x0 0 _ rfl
  replace hs := hs.below b1
  replace hx := hx.below b1
  replace hy := hy.below b1
  replace hu := hu.below b1
  clear b1
  rw [H1.out]
  go_wp2_with fail
  refine (yInput_any sd _ _ _ n _ m _ l _ vs rs us _ hx hy hu).mono ?_
  rintro e w3 ⟨rfl, b1⟩
  have B3 := Lib.hid (B2.out.trans (b1.mono B2.out.size))
  replace x0 := box_below x0 b1
  clear xc
  have xc := box_cell x0 0 _ rfl
  replace hs := hs.below b1
  replace hx := hx.below b1
  replace hy := hy.below b1
  replace hu := hu.below b1
  clear b1
  rw [H2.out]
  clear xc x0 hs hx hy hu
  go_wp2
  go_ret2
  exact ⟨none, 0, rfl, OwnI.nil_, B3.out⟩

set_option maxRecDepth 100000 in
set_option maxHeartbeats 2000000 in
theorem specKT_big (sd : Int) (T0 : Option Addr) (n0 c0 : Nat) (A B U : Option Addr) (n c m d l k' : Nat) (S : Nat → List Int) (vs : List (ByteArray × Int)) (rs : List RecD) (us : List Int) (w : World) (hs : IntsS w T0 n0 S) (hn0 : n0 ≤ 1099511627776) (hl0 : ∀ j, j < n0 → (S j).length ≤ 1099511627776) (hx : SchR w A n c vs) (hy : DatR w B m rs) (hu : IntR w U l us) (h1 : nzTab n0 S = true) (h2 : kcB sd vs rs us = true) (h3 : ¬ cellsN vs us ≤ 1000) :
    Calls Try.prog 9 #[.agg #[.slice T0 n0 c0], .int .i64 sd, .slice A n c, .slice B m d, .slice U l k'] w (RetInts w (ktR n0 S sd vs rs us) (ktB n0 S sd vs rs us)) := by
  have x0 := box_new w #[.slice T0 n0 c0] 33
  have b0 := below_new w (.cells #[.slice T0 n0 c0] 33)
  have xc := box_cell x0 0 _ rfl
  have hlen := Lib.hid hx.len
  have hml := Lib.hid hy.len
  have hul := Lib.hid hu.len
  have HL := Lib.hid hl0
  replace hs := hs.below b0
  replace hx := hx.below b0
  replace hy := hy.below b0
  replace hu := hu.below b0
  clear hl0
  have H1 := Lib.hid h1
  have H2 := Lib.hid h2
  have hk := keyed_all hlen.out (by simp only [kcB, Bool.and_eq_true] at h2; exact h2.2)
  have HK := Lib.hid hk
  have HP := Lib.hid (show prodN vs us l = (cellsN vs us : Int) by rw [← hul.out]; exact (cellsN_eq hk.part).1)
  have hN := (cellsN_eq hk.part).2
  have hm40 : m ≤ 40 := by rw [← hml.out]; exact hk.forty
  have hd : decide ((1000 : Int) < (cellsN vs us : Int)) = true := by simp; omega
  have RB : Hid (ktB n0 S sd vs rs us = false) := Lib.hid (by unfold ktB; simp [h3])
  have RR : Hid (ktR n0 S sd vs rs us = []) := Lib.hid (by unfold ktR; rw [RB.out]; rfl)
  rw [RB.out, RR.out]
  have HE := Lib.hid h3
  clear h1 h2 h3 hk
  go_enter Try.func9, Try.ntmps9
  go_wp2_with fail
  generalize w.alloc (.cells #[.slice T0 n0 c0] 33) = w1 at *
  refine (yGood_any _ n0 _ S _ hs hn0 HL.out).mono ?_
  rintro e w2 ⟨rfl, b1⟩
  have B2 := Lib.hid (b0.trans (b1.mono b0.size))
  replace x0 := box_below x0 b1
  clear xc
  have xc := box_cell x0 0 _ rfl
  replace hs := hs.below b1
  replace hx := hx.below b1
  replace hy := hy.below b1
  replace hu := hu.below b1
  clear b1
  rw [H1.out]
  go_wp2_with fail
  refine (yInput_any sd _ _ _ n _ m _ l _ vs rs us _ hx hy hu).mono ?_
  rintro e w3 ⟨rfl, b1⟩
  have B3 := Lib.hid (B2.out.trans (b1.mono B2.out.size))
  replace x0 := box_below x0 b1
  clear xc
  have xc := box_cell x0 0 _ rfl
  replace hs := hs.below b1
  replace hx := hx.below b1
  replace hy := hy.below b1
  replace hu := hu.below b1
  clear b1
  rw [H2.out]
  go_wp2_with fail
  refine (sPart_any _ _ n _ l _ vs us _ hx hu HK.out.part).mono ?_
  rintro e w4 ⟨A9, c9, rfl, o9, b1⟩
  have B4 := Lib.hid (B3.out.trans (b1.mono B3.out.size))
  replace x0 := box_below x0 b1
  clear xc
  have xc := box_cell x0 0 _ rfl
  replace hs := hs.below b1
  replace hx := hx.below b1
  replace hy := hy.below b1
  replace hu := hu.below b1
  clear b1
  go_wp2_with fail
  refine (sCount_any _ n _ l vs us _ o9.vars hul.out HK.out.part).mono ?_
  rintro e w5 ⟨rfl, b1⟩
  have B5 := Lib.hid (B4.out.trans (b1.mono B4.out.size))
  replace x0 := box_below x0 b1
  clear xc
  have xc := box_cell x0 0 _ rfl
  replace hs := hs.below b1
  replace hx := hx.below b1
  replace hy := hy.below b1
  replace hu := hu.below b1
  clear b1
  rw [HP.out]
  clear o9
  clear xc x0 hs hx hy hu
  go_wp2
  go_ret2
  exact ⟨none, 0, rfl, OwnI.nil_, B5.out⟩

set_option maxRecDepth 100000 in
set_option maxHeartbeats 2000000 in
theorem specKT_yes (sd : Int) (T0 : Option Addr) (n0 c0 : Nat) (A B U : Option Addr) (n c m d l k' : Nat) (S : Nat → List Int) (vs : List (ByteArray × Int)) (rs : List RecD) (us : List Int) (w : World) (hs : IntsS w T0 n0 S) (hn0 : n0 ≤ 1099511627776) (hl0 : ∀ j, j < n0 → (S j).length ≤ 1099511627776) (hx : SchR w A n c vs) (hy : DatR w B m rs) (hu : IntR w U l us) (h1 : nzTab n0 S = true) (h2 : kcB sd vs rs us = true) (h3 : cellsN vs us ≤ 1000) :
    Calls Try.prog 9 #[.agg #[.slice T0 n0 c0], .int .i64 sd, .slice A n c, .slice B m d, .slice U l k'] w (RetInts w (ktR n0 S sd vs rs us) (ktB n0 S sd vs rs us)) := by
  have x0 := box_new w #[.slice T0 n0 c0] 33
  have b0 := below_new w (.cells #[.slice T0 n0 c0] 33)
  have xc := box_cell x0 0 _ rfl
  have hlen := Lib.hid hx.len
  have hml := Lib.hid hy.len
  have hul := Lib.hid hu.len
  have HL := Lib.hid hl0
  replace hs := hs.below b0
  replace hx := hx.below b0
  replace hy := hy.below b0
  replace hu := hu.below b0
  clear hl0
  have H1 := Lib.hid h1
  have H2 := Lib.hid h2
  have hk := keyed_all hlen.out (by simp only [kcB, Bool.and_eq_true] at h2; exact h2.2)
  have HK := Lib.hid hk
  have HP := Lib.hid (show prodN vs us l = (cellsN vs us : Int) by rw [← hul.out]; exact (cellsN_eq hk.part).1)
  have hN := (cellsN_eq hk.part).2
  have hm40 : m ≤ 40 := by rw [← hml.out]; exact hk.forty
  have hd : decide ((1000 : Int) < (cellsN vs us : Int)) = false := by simp; omega
  have RB : Hid (ktB n0 S sd vs rs us = true) := Lib.hid (by unfold ktB; simp [h1, h2, h3])
  have RR : Hid (ktR n0 S sd vs rs us = tabl (cellsN vs us) (nzP n0 S (cellsC vs us rs (cellsN vs us) m) (cellsK sd vs us rs (cellsN vs us) m))) := Lib.hid (by unfold ktR; rw [if_pos RB.out, hml.out])
  have RL := Lib.hid (tabl_len (cellsN vs us) (nzP n0 S (cellsC vs us rs (cellsN vs us) m) (cellsK sd vs us rs (cellsN vs us) m)))
  rw [RB.out, RR.out]
  have HE := Lib.hid h3
  clear h1 h2 h3 hk
  go_enter Try.func9, Try.ntmps9
  go_wp2_with fail
  generalize w.alloc (.cells #[.slice T0 n0 c0] 33) = w1 at *
  refine (yGood_any _ n0 _ S _ hs hn0 HL.out).mono ?_
  rintro e w2 ⟨rfl, b1⟩
  have B2 := Lib.hid (b0.trans (b1.mono b0.size))
  replace x0 := box_below x0 b1
  clear xc
  have xc := box_cell x0 0 _ rfl
  replace hs := hs.below b1
  replace hx := hx.below b1
  replace hy := hy.below b1
  replace hu := hu.below b1
  clear b1
  rw [H1.out]
  go_wp2_with fail
  refine (yInput_any sd _ _ _ n _ m _ l _ vs rs us _ hx hy hu).mono ?_
  rintro e w3 ⟨rfl, b1⟩
  have B3 := Lib.hid (B2.out.trans (b1.mono B2.out.size))
  replace x0 := box_below x0 b1
  clear xc
  have xc := box_cell x0 0 _ rfl
  replace hs := hs.below b1
  replace hx := hx.below b1
  replace hy := hy.below b1
  replace hu := hu.below b1
  clear b1
  rw [H2.out]
  go_wp2_with fail
  refine (sPart_any _ _ n _ l _ vs us _ hx hu HK.out.part).mono ?_
  rintro e w4 ⟨A9, c9, rfl, o9, b1⟩
  have B4 := Lib.hid (B3.out.trans (b1.mono B3.out.size))
  replace x0 := box_below x0 b1
  clear xc
  have xc := box_cell x0 0 _ rfl
  replace hs := hs.below b1
  replace hx := hx.below b1
  replace hy := hy.below b1
  replace hu := hu.below b1
  clear b1
  go_wp2_with fail
  refine (sCount_any _ n _ l vs us _ o9.vars hul.out HK.out.part).mono ?_
  rintro e w5 ⟨rfl, b1⟩
  have B5 := Lib.hid (B4.out.trans (b1.mono B4.out.size))
  replace x0 := box_below x0 b1
  clear xc
  have xc := box_cell x0 0 _ rfl
  replace hs := hs.below b1
  replace hx := hx.below b1
  replace hy := hy.below b1
  replace hu := hu.below b1
  clear b1
  rw [HP.out]
  clear o9
  go_wp2_with fail
  refine (yCells_any sd _ _ _ n _ m _ l _ vs rs us _ hx hy hu HK.out).mono ?_
  rintro e w6 ⟨A1, c1, A2, c2, rfl, ⟨p1, q1, p2, q2, -, -, -, -, -, o1, o2⟩, b1⟩
  have B6 := Lib.hid (B5.out.trans (b1.mono B5.out.size))
  replace x0 := box_below x0 b1
  clear xc
  have xc := box_cell x0 0 _ rfl
  replace hs := hs.below b1
  clear b1 hx hy hu
  clear hd
  go_wp2_with fail
  refine (yPerturb_any _ _ _ n0 _ (cellsN vs us) _ _ S _ _ _ hs H1.out o1.ints o2.ints HE.out (cellsC_rng vs us rs _ m hm40) (cellsK_all sd vs us rs _ m)).mono ?_
  rintro e w9 ⟨A9, c9, rfl, o9, b9⟩
  have BE := Lib.hid (B6.out.trans (b9.mono B6.out.size))
  have O9 := Lib.hid (o9.fit B6.out.size)
  clear xc x0 hs b9 o9 o1 o2
  go_wp2
  go_ret2
  exact ⟨A9, c9, by rw [RL.out]; rfl, by rw [RL.out]; exact O9.out, BE.out⟩

theorem specKeyedTable_law (sd : Int) (T0 : Option Addr) (n0 c0 : Nat) (A B U : Option Addr) (n c m d l k' : Nat) (S : Nat → List Int) (vs : List (ByteArray × Int)) (rs : List RecD) (us : List Int) (w : World) (hs : IntsS w T0 n0 S) (hn0 : n0 ≤ 1099511627776) (hl0 : ∀ j, j < n0 → (S j).length ≤ 1099511627776) (hx : SchR w A n c vs) (hy : DatR w B m rs) (hu : IntR w U l us) :
    Calls Try.prog 9 #[.agg #[.slice T0 n0 c0], .int .i64 sd, .slice A n c, .slice B m d, .slice U l k'] w (RetInts w (ktR n0 S sd vs rs us) (ktB n0 S sd vs rs us)) := by
  cases h1 : nzTab n0 S
  · exact specKT_no1 sd _ n0 _ _ _ _ n _ m _ l _ S vs rs us w hs hn0 hl0 hx hy hu h1
  cases h4 : kcB sd vs rs us
  · exact specKT_no2 sd _ n0 _ _ _ _ n _ m _ l _ S vs rs us w hs hn0 hl0 hx hy hu h1 h4
  by_cases h5 : cellsN vs us ≤ 1000
  · exact specKT_yes sd _ n0 _ _ _ _ n _ m _ l _ S vs rs us w hs hn0 hl0 hx hy hu h1 h4 h5
  · exact specKT_big sd _ n0 _ _ _ _ n _ m _ l _ S vs rs us w hs hn0 hl0 hx hy hu h1 h4 h5

set_option maxRecDepth 100000 in
set_option maxHeartbeats 2000000 in
theorem implKT_no1 (sd : Int) (T0 : Option Addr) (n0 c0 : Nat) (A B U : Option Addr) (n c m d l k' : Nat) (S : Nat → List Int) (vs : List (ByteArray × Int)) (rs : List RecD) (us : List Int) (w : World) (hs : IntsS w T0 n0 S) (hn0 : n0 ≤ 1099511627776) (hl0 : ∀ j, j < n0 → (S j).length ≤ 1099511627776) (hx : SchR w A n c vs) (hy : DatR w B m rs) (hu : IntR w U l us) (h1 : nzTab n0 S = false) :
    Calls Try.prog 14 #[.agg #[.slice T0 n0 c0], .int .i64 sd, .slice A n c, .slice B m d, .slice U l k'] w (RetInts w (ktR n0 S sd vs rs us) (ktB n0 S sd vs rs us)) := by
  have x0 := box_new w #[.slice T0 n0 c0] 33
  have b0 := below_new w (.cells #[.slice T0 n0 c0] 33)
  have xc := box_cell x0 0 _ rfl
  have hlen := Lib.hid hx.len
  have hml := Lib.hid hy.len
  have hul := Lib.hid hu.len
  have HL := Lib.hid hl0
  replace hs := hs.below b0
  replace hx := hx.below b0
  replace hy := hy.below b0
  replace hu := hu.below b0
  clear hl0
  have H1 := Lib.hid h1
  have RB : Hid (ktB n0 S sd vs rs us = false) := Lib.hid (by unfold ktB; simp [h1])
  have RR : Hid (ktR n0 S sd vs rs us = []) := Lib.hid (by unfold ktR; rw [RB.out]; rfl)
  rw [RB.out, RR.out]
  clear h1
  go_enter Try.func14, Try.ntmps14
  go_wp2_with fail
  generalize w.alloc (.cells #[.slice T0 n0 c0] 33) = w1 at *
  refine (isNoise_any _ n0 _ S _ hs hn0 HL.out).mono ?_
  rintro e w2 ⟨rfl, b1⟩
  have B2 := Lib.hid (b0.trans (b1.mono b0.size))
  replace x0 := box_below x0 b1
  clear xc
  have xc := box_cell x0 0 _ rfl
  replace hs := hs.below b1
  replace hx := hx.below b1
  replace hy := hy.below b1
  replace hu := hu.below b1
  clear b1
  rw [H1.out]
  clear xc x0 hs hx hy hu
  go_wp2
  go_ret2
  exact ⟨none, 0, rfl, OwnI.nil_, B2.out⟩

set_option maxRecDepth 100000 in
set_option maxHeartbeats 2000000 in
theorem implKT_no2 (sd : Int) (T0 : Option Addr) (n0 c0 : Nat) (A B U : Option Addr) (n c m d l k' : Nat) (S : Nat → List Int) (vs : List (ByteArray × Int)) (rs : List RecD) (us : List Int) (w : World) (hs : IntsS w T0 n0 S) (hn0 : n0 ≤ 1099511627776) (hl0 : ∀ j, j < n0 → (S j).length ≤ 1099511627776) (hx : SchR w A n c vs) (hy : DatR w B m rs) (hu : IntR w U l us) (h1 : nzTab n0 S = true) (h2 : inR sd 0 4611686016279904236 = false) :
    Calls Try.prog 14 #[.agg #[.slice T0 n0 c0], .int .i64 sd, .slice A n c, .slice B m d, .slice U l k'] w (RetInts w (ktR n0 S sd vs rs us) (ktB n0 S sd vs rs us)) := by
  have x0 := box_new w #[.slice T0 n0 c0] 33
  have b0 := below_new w (.cells #[.slice T0 n0 c0] 33)
  have xc := box_cell x0 0 _ rfl
  have hlen := Lib.hid hx.len
  have hml := Lib.hid hy.len
  have hul := Lib.hid hu.len
  have HL := Lib.hid hl0
  replace hs := hs.below b0
  replace hx := hx.below b0
  replace hy := hy.below b0
  replace hu := hu.below b0
  clear hl0
  have H1 := Lib.hid h1
  have H2 := Lib.hid h2
  have RB : Hid (ktB n0 S sd vs rs us = false) := Lib.hid (by unfold ktB; simp [kcB, h2])
  have RR : Hid (ktR n0 S sd vs rs us = []) := Lib.hid (by unfold ktR; rw [RB.out]; rfl)
  rw [RB.out, RR.out]
  clear h1 h2
  go_enter Try.func14, Try.ntmps14
  go_wp2_with fail
  generalize w.alloc (.cells #[.slice T0 n0 c0] 33) = w1 at *
  refine (isNoise_any _ n0 _ S _ hs hn0 HL.out).mono ?_
  rintro e w2 ⟨rfl, b1⟩
  have B2 := Lib.hid (b0.trans (b1.mono b0.size))
  replace x0 := box_below x0 b1
  clear xc
  have xc := box_cell x0 0 _ rfl
  replace hs := hs.below b1
  replace hx := hx.below b1
  replace hy := hy.below b1
  replace hu := hu.below b1
  clear b1
  rw [H1.out]
  go_wp2_with fail
  refine (isSeed_any _ _).mono ?_
  rintro e w3 ⟨rfl, rfl⟩
  rw [H2.out]
  clear xc x0 hs hx hy hu
  go_wp2
  go_ret2
  exact ⟨none, 0, rfl, OwnI.nil_, B2.out⟩

set_option maxRecDepth 100000 in
set_option maxHeartbeats 2000000 in
theorem implKT_no3 (sd : Int) (T0 : Option Addr) (n0 c0 : Nat) (A B U : Option Addr) (n c m d l k' : Nat) (S : Nat → List Int) (vs : List (ByteArray × Int)) (rs : List RecD) (us : List Int) (w : World) (hs : IntsS w T0 n0 S) (hn0 : n0 ≤ 1099511627776) (hl0 : ∀ j, j < n0 → (S j).length ≤ 1099511627776) (hx : SchR w A n c vs) (hy : DatR w B m rs) (hu : IntR w U l us) (h1 : nzTab n0 S = true) (h2 : inR sd 0 4611686016279904236 = true) (h3 : keyedB vs rs us = false) :
    Calls Try.prog 14 #[.agg #[.slice T0 n0 c0], .int .i64 sd, .slice A n c, .slice B m d, .slice U l k'] w (RetInts w (ktR n0 S sd vs rs us) (ktB n0 S sd vs rs us)) := by
  have x0 := box_new w #[.slice T0 n0 c0] 33
  have b0 := below_new w (.cells #[.slice T0 n0 c0] 33)
  have xc := box_cell x0 0 _ rfl
  have hlen := Lib.hid hx.len
  have hml := Lib.hid hy.len
  have hul := Lib.hid hu.len
  have HL := Lib.hid hl0
  replace hs := hs.below b0
  replace hx := hx.below b0
  replace hy := hy.below b0
  replace hu := hu.below b0
  clear hl0
  have H1 := Lib.hid h1
  have H2 := Lib.hid h2
  have H3 := Lib.hid h3
  have RB : Hid (ktB n0 S sd vs rs us = false) := Lib.hid (by unfold ktB; simp [kcB, h3])
  have RR : Hid (ktR n0 S sd vs rs us = []) := Lib.hid (by unfold ktR; rw [RB.out]; rfl)
  rw [RB.out, RR.out]
  clear h1 h2 h3
  go_enter Try.func14, Try.ntmps14
  go_wp2_with fail
  generalize w.alloc (.cells #[.slice T0 n0 c0] 33) = w1 at *
  refine (isNoise_any _ n0 _ S _ hs hn0 HL.out).mono ?_
  rintro e w2 ⟨rfl, b1⟩
  have B2 := Lib.hid (b0.trans (b1.mono b0.size))
  replace x0 := box_below x0 b1
  clear xc
  have xc := box_cell x0 0 _ rfl
  replace hs := hs.below b1
  replace hx := hx.below b1
  replace hy := hy.below b1
  replace hu := hu.below b1
  clear b1
  rw [H1.out]
  go_wp2_with fail
  refine (isSeed_any _ _).mono ?_
  rintro e w3 ⟨rfl, rfl⟩
  rw [H2.out]
  go_wp2_with fail
  refine (areKeyed_any _ _ _ n _ m _ l _ vs rs us _ hx hy hu).mono ?_
  rintro e w4 ⟨rfl, b1⟩
  have B4 := Lib.hid (B2.out.trans (b1.mono B2.out.size))
  replace x0 := box_below x0 b1
  clear xc
  have xc := box_cell x0 0 _ rfl
  replace hs := hs.below b1
  replace hx := hx.below b1
  replace hy := hy.below b1
  replace hu := hu.below b1
  clear b1
  rw [H3.out]
  clear xc x0 hs hx hy hu
  go_wp2
  go_ret2
  exact ⟨none, 0, rfl, OwnI.nil_, B4.out⟩

set_option maxRecDepth 100000 in
set_option maxHeartbeats 2000000 in
theorem implKT_big (sd : Int) (T0 : Option Addr) (n0 c0 : Nat) (A B U : Option Addr) (n c m d l k' : Nat) (S : Nat → List Int) (vs : List (ByteArray × Int)) (rs : List RecD) (us : List Int) (w : World) (hs : IntsS w T0 n0 S) (hn0 : n0 ≤ 1099511627776) (hl0 : ∀ j, j < n0 → (S j).length ≤ 1099511627776) (hx : SchR w A n c vs) (hy : DatR w B m rs) (hu : IntR w U l us) (h1 : nzTab n0 S = true) (h2 : kcB sd vs rs us = true) (h3 : ¬ cellsN vs us ≤ 1000) :
    Calls Try.prog 14 #[.agg #[.slice T0 n0 c0], .int .i64 sd, .slice A n c, .slice B m d, .slice U l k'] w (RetInts w (ktR n0 S sd vs rs us) (ktB n0 S sd vs rs us)) := by
  have x0 := box_new w #[.slice T0 n0 c0] 33
  have b0 := below_new w (.cells #[.slice T0 n0 c0] 33)
  have xc := box_cell x0 0 _ rfl
  have hlen := Lib.hid hx.len
  have hml := Lib.hid hy.len
  have hul := Lib.hid hu.len
  have HL := Lib.hid hl0
  replace hs := hs.below b0
  replace hx := hx.below b0
  replace hy := hy.below b0
  replace hu := hu.below b0
  clear hl0
  have H1 := Lib.hid h1
  have H2 := Lib.hid h2
  have hk := keyed_all hlen.out (by simp only [kcB, Bool.and_eq_true] at h2; exact h2.2)
  have HK := Lib.hid hk
  have HP := Lib.hid (show prodN vs us l = (cellsN vs us : Int) by rw [← hul.out]; exact (cellsN_eq hk.part).1)
  have hN := (cellsN_eq hk.part).2
  have hm40 : m ≤ 40 := by rw [← hml.out]; exact hk.forty
  have H4 := Lib.hid (show inR sd 0 4611686016279904236 = true by simp only [kcB, Bool.and_eq_true] at h2; exact h2.1)
  have H5 := Lib.hid (show keyedB vs rs us = true by simp only [kcB, Bool.and_eq_true] at h2; exact h2.2)
  have hd : decide ((1000 : Int) < (cellsN vs us : Int)) = true := by simp; omega
  have RB : Hid (ktB n0 S sd vs rs us = false) := Lib.hid (by unfold ktB; simp [h3])
  have RR : Hid (ktR n0 S sd vs rs us = []) := Lib.hid (by unfold ktR; rw [RB.out]; rfl)
  rw [RB.out, RR.out]
  have HE := Lib.hid h3
  clear h1 h2 h3 hk
  clear hd
  go_enter Try.func14, Try.ntmps14
  go_wp2_with fail
  generalize w.alloc (.cells #[.slice T0 n0 c0] 33) = w1 at *
  refine (isNoise_any _ n0 _ S _ hs hn0 HL.out).mono ?_
  rintro e w2 ⟨rfl, b1⟩
  have B2 := Lib.hid (b0.trans (b1.mono b0.size))
  replace x0 := box_below x0 b1
  clear xc
  have xc := box_cell x0 0 _ rfl
  replace hs := hs.below b1
  replace hx := hx.below b1
  replace hy := hy.below b1
  replace hu := hu.below b1
  clear b1
  rw [H1.out]
  go_wp2_with fail
  refine (isSeed_any _ _).mono ?_
  rintro e w3 ⟨rfl, rfl⟩
  rw [H4.out]
  go_wp2_with fail
  refine (areKeyed_any _ _ _ n _ m _ l _ vs rs us _ hx hy hu).mono ?_
  rintro e w4 ⟨rfl, b1⟩
  have B4 := Lib.hid (B2.out.trans (b1.mono B2.out.size))
  replace x0 := box_below x0 b1
  clear xc
  have xc := box_cell x0 0 _ rfl
  replace hs := hs.below b1
  replace hx := hx.below b1
  replace hy := hy.below b1
  replace hu := hu.below b1
  clear b1
  rw [H5.out]
  go_wp2_with fail
  refine (keyedCells_any sd _ _ _ n _ m _ l _ vs rs us _ hx hy hu HK.out).mono ?_
  rintro e w5 ⟨A1, c1, A2, c2, rfl, ⟨p1, q1, p2, q2, -, -, -, -, -, o1, o2⟩, b1⟩
  have B5 := Lib.hid (B4.out.trans (b1.mono B4.out.size))
  replace x0 := box_below x0 b1
  clear xc
  have xc := box_cell x0 0 _ rfl
  replace hs := hs.below b1
  clear b1 hx hy hu
  go_wp2_with fail
  refine (perturb_big _ _ _ n0 _ (cellsN vs us) _ _ S _ hs H1.out HE.out (by omega)).mono ?_
  rintro e w9 ⟨A9, c9, rfl, o9, b9⟩
  have BE := Lib.hid (B5.out.trans (b9.mono B5.out.size))
  have O9 := Lib.hid (o9.fit B5.out.size)
  clear xc x0 hs b9 o9 o1 o2
  go_wp2
  go_ret2
  exact ⟨A9, c9, rfl, O9.out, BE.out⟩

set_option maxRecDepth 100000 in
set_option maxHeartbeats 2000000 in
theorem implKT_yes (sd : Int) (T0 : Option Addr) (n0 c0 : Nat) (A B U : Option Addr) (n c m d l k' : Nat) (S : Nat → List Int) (vs : List (ByteArray × Int)) (rs : List RecD) (us : List Int) (w : World) (hs : IntsS w T0 n0 S) (hn0 : n0 ≤ 1099511627776) (hl0 : ∀ j, j < n0 → (S j).length ≤ 1099511627776) (hx : SchR w A n c vs) (hy : DatR w B m rs) (hu : IntR w U l us) (h1 : nzTab n0 S = true) (h2 : kcB sd vs rs us = true) (h3 : cellsN vs us ≤ 1000) :
    Calls Try.prog 14 #[.agg #[.slice T0 n0 c0], .int .i64 sd, .slice A n c, .slice B m d, .slice U l k'] w (RetInts w (ktR n0 S sd vs rs us) (ktB n0 S sd vs rs us)) := by
  have x0 := box_new w #[.slice T0 n0 c0] 33
  have b0 := below_new w (.cells #[.slice T0 n0 c0] 33)
  have xc := box_cell x0 0 _ rfl
  have hlen := Lib.hid hx.len
  have hml := Lib.hid hy.len
  have hul := Lib.hid hu.len
  have HL := Lib.hid hl0
  replace hs := hs.below b0
  replace hx := hx.below b0
  replace hy := hy.below b0
  replace hu := hu.below b0
  clear hl0
  have H1 := Lib.hid h1
  have H2 := Lib.hid h2
  have hk := keyed_all hlen.out (by simp only [kcB, Bool.and_eq_true] at h2; exact h2.2)
  have HK := Lib.hid hk
  have HP := Lib.hid (show prodN vs us l = (cellsN vs us : Int) by rw [← hul.out]; exact (cellsN_eq hk.part).1)
  have hN := (cellsN_eq hk.part).2
  have hm40 : m ≤ 40 := by rw [← hml.out]; exact hk.forty
  have H4 := Lib.hid (show inR sd 0 4611686016279904236 = true by simp only [kcB, Bool.and_eq_true] at h2; exact h2.1)
  have H5 := Lib.hid (show keyedB vs rs us = true by simp only [kcB, Bool.and_eq_true] at h2; exact h2.2)
  have hd : decide ((1000 : Int) < (cellsN vs us : Int)) = false := by simp; omega
  have RB : Hid (ktB n0 S sd vs rs us = true) := Lib.hid (by unfold ktB; simp [h1, h2, h3])
  have RR : Hid (ktR n0 S sd vs rs us = tabl (cellsN vs us) (nzP n0 S (cellsC vs us rs (cellsN vs us) m) (cellsK sd vs us rs (cellsN vs us) m))) := Lib.hid (by unfold ktR; rw [if_pos RB.out, hml.out])
  have RL := Lib.hid (tabl_len (cellsN vs us) (nzP n0 S (cellsC vs us rs (cellsN vs us) m) (cellsK sd vs us rs (cellsN vs us) m)))
  rw [RB.out, RR.out]
  have HE := Lib.hid h3
  clear h1 h2 h3 hk
  clear hd
  go_enter Try.func14, Try.ntmps14
  go_wp2_with fail
  generalize w.alloc (.cells #[.slice T0 n0 c0] 33) = w1 at *
  refine (isNoise_any _ n0 _ S _ hs hn0 HL.out).mono ?_
  rintro e w2 ⟨rfl, b1⟩
  have B2 := Lib.hid (b0.trans (b1.mono b0.size))
  replace x0 := box_below x0 b1
  clear xc
  have xc := box_cell x0 0 _ rfl
  replace hs := hs.below b1
  replace hx := hx.below b1
  replace hy := hy.below b1
  replace hu := hu.below b1
  clear b1
  rw [H1.out]
  go_wp2_with fail
  refine (isSeed_any _ _).mono ?_
  rintro e w3 ⟨rfl, rfl⟩
  rw [H4.out]
  go_wp2_with fail
  refine (areKeyed_any _ _ _ n _ m _ l _ vs rs us _ hx hy hu).mono ?_
  rintro e w4 ⟨rfl, b1⟩
  have B4 := Lib.hid (B2.out.trans (b1.mono B2.out.size))
  replace x0 := box_below x0 b1
  clear xc
  have xc := box_cell x0 0 _ rfl
  replace hs := hs.below b1
  replace hx := hx.below b1
  replace hy := hy.below b1
  replace hu := hu.below b1
  clear b1
  rw [H5.out]
  go_wp2_with fail
  refine (keyedCells_any sd _ _ _ n _ m _ l _ vs rs us _ hx hy hu HK.out).mono ?_
  rintro e w5 ⟨A1, c1, A2, c2, rfl, ⟨p1, q1, p2, q2, -, -, -, -, -, o1, o2⟩, b1⟩
  have B5 := Lib.hid (B4.out.trans (b1.mono B4.out.size))
  replace x0 := box_below x0 b1
  clear xc
  have xc := box_cell x0 0 _ rfl
  replace hs := hs.below b1
  clear b1 hx hy hu
  go_wp2_with fail
  refine (perturb_any _ _ _ n0 _ (cellsN vs us) _ _ S _ _ _ hs H1.out o1.ints o2.ints HE.out (cellsC_rng vs us rs _ m hm40) (cellsK_all sd vs us rs _ m)).mono ?_
  rintro e w9 ⟨A9, c9, rfl, o9, b9⟩
  have BE := Lib.hid (B5.out.trans (b9.mono B5.out.size))
  have O9 := Lib.hid (o9.fit B5.out.size)
  clear xc x0 hs b9 o9 o1 o2
  go_wp2
  go_ret2
  exact ⟨A9, c9, rfl, O9.out, BE.out⟩

theorem implKeyedTable_law (sd : Int) (T0 : Option Addr) (n0 c0 : Nat) (A B U : Option Addr) (n c m d l k' : Nat) (S : Nat → List Int) (vs : List (ByteArray × Int)) (rs : List RecD) (us : List Int) (w : World) (hs : IntsS w T0 n0 S) (hn0 : n0 ≤ 1099511627776) (hl0 : ∀ j, j < n0 → (S j).length ≤ 1099511627776) (hx : SchR w A n c vs) (hy : DatR w B m rs) (hu : IntR w U l us) :
    Calls Try.prog 14 #[.agg #[.slice T0 n0 c0], .int .i64 sd, .slice A n c, .slice B m d, .slice U l k'] w (RetInts w (ktR n0 S sd vs rs us) (ktB n0 S sd vs rs us)) := by
  cases h1 : nzTab n0 S
  · exact implKT_no1 sd _ n0 _ _ _ _ n _ m _ l _ S vs rs us w hs hn0 hl0 hx hy hu h1
  cases h2 : inR sd 0 4611686016279904236
  · exact implKT_no2 sd _ n0 _ _ _ _ n _ m _ l _ S vs rs us w hs hn0 hl0 hx hy hu h1 h2
  cases h3 : keyedB vs rs us
  · exact implKT_no3 sd _ n0 _ _ _ _ n _ m _ l _ S vs rs us w hs hn0 hl0 hx hy hu h1 h2 h3
  have h4 : kcB sd vs rs us = true := by unfold kcB; rw [h2, h3]; rfl
  by_cases h5 : cellsN vs us ≤ 1000
  · exact implKT_yes sd _ n0 _ _ _ _ n _ m _ l _ S vs rs us w hs hn0 hl0 hx hy hu h1 h4 h5
  · exact implKT_big sd _ n0 _ _ _ _ n _ m _ l _ S vs rs us w hs hn0 hl0 hx hy hu h1 h4 h5
end Go.Proofs.Ytgeilnkglbcmeaa
