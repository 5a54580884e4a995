/- The sizes of the classes and the unique records, of the program and of the reference. -/
import Derived.Test.YtgeilnkglbcmeaaGreatZg
namespace Go.Proofs.YtgeilnkglbcmeaaGreat
open Go.RowKit

def RetInts (w : World) (L : List Int) (b : Bool) (e : Ending) (w' : World) : Prop :=
  ∃ A' c', e = .returned (.tuple #[.slice A' L.length c', .bool b]) ∧ OwnI w' w.heap.size w'.heap.size A' L.length c' L ∧ Below w.heap.size w w'
theorem OwnI.nil_ {w : World} {lo hi : Nat} : OwnI w lo hi none 0 0 [] := ⟨Own.nil_, (fun k hk => by cases hk), by omega⟩
theorem tabl_set {n i : Nat} {F : Nat → Int} {v : Int} : (tabl n F).set i v = tabl n (fun t => if t = i then v else F t) := by
  apply List.ext_getElem?
  intro t
  rcases Nat.lt_or_ge t n with h | h
  · rw [List.getElem?_set]
    by_cases e : i = t
    · subst e; simp [tabl, h]
    · simp [tabl, h, e, Ne.symm e]
  · rw [List.getElem?_eq_none (by rw [List.length_set, tabl_len]; exact h), List.getElem?_eq_none (by rw [tabl_len]; exact h)]
theorem tabl_congr {n : Nat} {F G : Nat → Int} (h : ∀ t, t < n → F t = G t) : tabl n F = tabl n G := List.map_congr_left fun t ht => h t (List.mem_range.1 ht)
def csL (vs : List (ByteArray × Int)) (us : List Int) (rs : List RecD) : List Int := tabl rs.length (fun i => ((setL vs us rs rs i).length : Int))
def uqL (vs : List (ByteArray × Int)) (us : List Int) (rs : List RecD) : List Int := linkK (fun i => decide ((setL vs us rs rs i).length = 1)) rs.length
theorem csL_len (vs : List (ByteArray × Int)) (us : List Int) (rs : List RecD) : (csL vs us rs).length = rs.length := tabl_len _ _
def midC (vs : List (ByteArray × Int)) (us : List Int) (rs : List RecD) (i j : Nat) : Nat → Int := fun t => ((midL vs us rs rs i j t).length : Int)
theorem midC_yes {vs : List (ByteArray × Int)} {us : List Int} {rs : List RecD} {n i j : Nat} (h : lnk vs us rs rs i j = true) : (tabl n (midC vs us rs i j)).set i (midC vs us rs i j i + 1) = tabl n (midC vs us rs i (j + 1)) := by
  rw [tabl_set]
  refine tabl_congr fun t _ => ?_
  by_cases e : t = i
  · subst e; rw [if_pos rfl]; simp [midC, midL_at, linkK_yes h]
  · rw [if_neg e]; simp [midC, midL, e]
theorem midC_bd (vs : List (ByteArray × Int)) (us : List Int) (rs : List RecD) (i j : Nat) : 0 ≤ midC vs us rs i j i ∧ midC vs us rs i j i ≤ j := by
  have := linkK_len (lnk vs us rs rs i) j
  simp only [midC, midL_at]
  omega
theorem tabl_zero (n : Nat) : List.replicate n (0 : Int) = tabl n (fun _ => 0) := by simp [tabl, List.map_const']

set_option maxRecDepth 100000 in
set_option maxHeartbeats 4000000 in
theorem classSizes_any (A B U : Option Addr) (n c m d l k' : Nat) (vs : List (ByteArray × Int)) (rs : List RecD) (us : List Int) (w : World) (hx : SchR w A n c vs) (hy : DatR w B m rs) (hu : IntR w U l us) (hk : AllOk vs rs us n) :
    Calls Tryz.prog 42 #[.slice A n c, .slice B m d, .slice U l k'] w fun e w' => ∃ A' c', e = .returned (.slice A' m c') ∧ OwnI w' w.heap.size w'.heap.size A' m c' (csL vs us rs) ∧ Below w.heap.size w w' := by
  obtain ⟨i0, hi, hz0, hz1, hz2⟩ := info_parts Tryz.infoInt
  have hm40 : m ≤ 40 := by have := hk.forty; rw [hy.len] at this; exact this
  have HX := Lib.hid hx
  have HY := Lib.hid hy
  have HU := Lib.hid hu
  clear hx hy hu
  go_enter Tryz.func42, Tryz.ntmps42
  go_wp2_with (at_make; refine wpList_make_full _ rfl _ _ 26 rfl w.heap.size 3 i0 _ 1 Tryz.underlying26 hi hz0 hz1 .i64 .i64 _ _ m rfl rfl rfl rfl (by rw [hz2]; omega) (by unfold maxLen; omega) (Nat.le_refl _) ?_; intro w1 hown hg)
  rw [map_replicate0] at hown
  have hO : Own w1 w.heap.size (some ⟨w.heap.size, 0, none⟩) m m (tabl m (midC vs us rs 0 0)) := by
    have e : tabl m (midC vs us rs 0 0) = List.replicate m 0 := by rw [tabl_zero]; exact tabl_congr fun t _ => by simp [midC, midL_zero]
    rw [e]; exact hown
  have hb1 : Below w.heap.size w w1 := (Below.refl _ _).grown hg (Nat.le_refl _) (by simp)
  clear hown hg hi hz0 hz1 hz2
  go_loopw [17] (fun i wr => ∃ (j : Nat), j ≤ m ∧ i = .int .i64 j ∧ Own wr w.heap.size (some ⟨w.heap.size, 0, none⟩) m m (tabl m (midC vs us rs j 0)) ∧ Below w.heap.size w wr) (fun i _ => m - (intOf i).toNat)
  case atStart => exact ⟨0, Nat.zero_le _, rfl, hO, hb1⟩
  case round =>
    clear hO hb1
    obtain ⟨j, hj, rfl, hown, hbw⟩ := hrel
    obtain ⟨wo, rfl⟩ : ∃ wo : World, wo = wr := ⟨_, rfl⟩
    by_cases hlt : j < m
    · obtain ⟨ad, rfl, c0, c1, V, lv, cv, c2, hv⟩ := HY.out.r.later hbw hlt
      have hk1 := Lib.hid (hk.at_ (show j < rs.length by rw [HY.out.len]; exact hlt))
      have hlv : lv ≤ 1099511627776 := by have := HY.out.s j hlt; rw [hv.1] at this; exact this
      obtain ⟨x, hxe⟩ : ∃ x, rA rs j = x := ⟨_, rfl⟩
      obtain ⟨y, hye⟩ : ∃ y, rH rs j = y := ⟨_, rfl⟩
      rw [hxe] at c0
      rw [hye] at c1
      clear hye
      have HXE := Lib.hid hxe
      clear hxe
      have b1 := below_new wo (.cells #[.int .i64 x, .int .i64 y, .slice V lv cv] 53)
      have X1 := Lib.hid (box_new wo #[.int .i64 x, .int .i64 y, .slice V lv cv] 53)
      have O1 := Lib.hid (hown.below b1)
      have HB1 := Lib.hid (hbw.trans (b1.mono hbw.size))
      have HV := Lib.hid hv
      have hgb : w.heap.size < wo.heap.size := hown.size_lt
      clear hown hv b1
      go_wp2_with fail
      clear hbw
      generalize wo.alloc (.cells #[.int .i64 x, .int .i64 y, .slice V lv cv] 53) = w2 at *
      go_loopw [24] (fun i wq => ∃ (q : Nat), q ≤ m ∧ i = .int .i64 q ∧ Hid (wq.heap[wo.heap.size]? = some (.cells #[.int .i64 x, .int .i64 y, .slice V lv cv] 53 (0, 0))) ∧ Hid (Own wq w.heap.size (some ⟨w.heap.size, 0, none⟩) m m (tabl m (midC vs us rs j q))) ∧ Hid (Below w.heap.size w wq)) (fun i _ => m - (intOf i).toNat)
      case atStart => exact ⟨0, Nat.zero_le _, rfl, X1, O1, HB1⟩
      case round =>
        clear X1 O1 HB1
        obtain ⟨q, hq, rfl, X2, O2, HB2⟩ := hrel
        by_cases hqm : q < m
        · obtain ⟨ad2, ea, e0, e1, V2, lv2, cv2, e2, hv2⟩ := HY.out.r.later HB2.out hqm
          injection ea with ea
          subst ea
          have hk3 := Lib.hid (hk.at_ (show q < rs.length by rw [HY.out.len]; exact hqm))
          have hlv2 : lv2 ≤ 1099511627776 := by have := HY.out.s q hqm; rw [hv2.1] at this; exact this
          obtain ⟨x2, hxe2⟩ : ∃ x, rA rs q = x := ⟨_, rfl⟩
          obtain ⟨y2, hye2⟩ : ∃ y, rH rs q = y := ⟨_, rfl⟩
          rw [hxe2] at e0
          rw [hye2] at e1
          clear hye2
          have HL := Lib.hid (show lnk vs us rs rs j q = sameB x (keyV vs (rV rs j) us) x2 (keyV vs (rV rs q) us) by unfold lnk; rw [HXE.out, hxe2])
          clear hxe2
          have b3 := below_new wr (.cells #[.int .i64 x2, .int .i64 y2, .slice V2 lv2 cv2] 53)
          have q0 := box_new wr #[.int .i64 x2, .int .i64 y2, .slice V2 lv2 cv2] 53
          have p0 := box_below X2.out b3
          have O3 := Lib.hid (O2.out.below b3)
          have HB3 := Lib.hid (HB2.out.trans (b3.mono HB2.out.size))
          have HW := Lib.hid hv2
          have HP3 := Lib.hid p0
          have g0 := box_cell p0 0 (.int .i64 x) rfl
          have g1 := box_cell p0 1 (.int .i64 y) rfl
          have g2 := box_cell p0 2 (.slice V lv cv) rfl
          have f0 := box_cell q0 0 (.int .i64 x2) rfl
          have f1 := box_cell q0 1 (.int .i64 y2) rfl
          have f2 := box_cell q0 2 (.slice V2 lv2 cv2) rfl
          have hlo := HB3.out.size
          clear X2 O2 HB2 hv2 b3 p0 q0
          go_wp2_with fail
          clear e0 e1 e2
          generalize wr.alloc (.cells #[.int .i64 x2, .int .i64 y2, .slice V2 lv2 cv2] 53) = w3 at *
          refine (sameClass_any _ _ _ _ n _ lv _ lv2 _ l _ x y x2 y2 vs (rV rs j) (rV rs q) us _ (HX.out.below HB3.out) ⟨HV.out.below HB3.out, hlv⟩ ⟨HW.out.below HB3.out, hlv2⟩ (HU.out.below HB3.out) hk1.out hk3.out).mono ?_
          rintro e w4 ⟨rfl, b4⟩
          rw [← HL.out]
          have O4 := Lib.hid (O3.out.below b4)
          have HB4 := Lib.hid (HB3.out.trans (b4.mono HB3.out.size))
          have HP4 := Lib.hid (box_below HP3.out b4)
          have hlo4 := HB4.out.size
          have hgx : wo.heap.size < w4.heap.size := lt_of_block HP4.out
          clear O3 HB3 HP3 HW b4 g0 g1 g2 f0 f1 f2 hlo
          cases hB : lnk vs us rs rs j q
          · have R := Lib.hid (show Own w4 w.heap.size (some ⟨w.heap.size, 0, none⟩) m m (tabl m (midC vs us rs j (q + 1))) by unfold midC; rw [← midL_no hB]; exact O4.out)
            clear hB O4
            go_wp2
            go_roundw
            case rel => exact ⟨q + 1, by omega, by go_num, HP4, R, HB4⟩
            case measure => simp [intOf]; omega
          · have hB' := Lib.hid hB
            clear hB
            obtain ⟨g5, hg5, _, _, hc5, hf5⟩ := O4.out.at_ hlt
            simp only [Option.some.injEq, Addr.mk.injEq, and_true] at hg5
            subst hg5
            rw [tabl_at hlt] at hc5
            have hbd := midC_bd vs us rs j q
            have HM := Lib.hid (midC_yes (n := m) hB'.out)
            have O5 := Lib.hid (fun v => O4.out.set (k := j) (x := v))
            generalize midC vs us rs j q j = v0 at *
            have HB7 := Lib.hid (HB4.out.setCell (p := ⟨w.heap.size, j, none⟩) (Nat.le_refl _) (.int .i64 (v0 + 1)))
            have HP6 := Lib.hid ((Below.heap_setCell w4 ⟨w.heap.size, j, none⟩ (.int .i64 (v0 + 1)) wo.heap.size (by simp; omega)).trans HP4.out)
            go_wp2
            go_roundw
            case rel => exact ⟨q + 1, by omega, by go_num, HP6, Lib.hid (by rw [← HM.out]; exact O5.out _), HB7⟩
            case measure => simp [intOf]; omega
        · obtain rfl : q = m := by omega
          have hO2 : Own wr w.heap.size (some ⟨w.heap.size, 0, none⟩) q q (tabl q (midC vs us rs (j + 1) 0)) := by unfold midC; rw [← midL_end HY.out.len]; exact O2.out
          clear O2
          have hB2 := HB2.out
          go_wp2
          go_roundw
          case rel => exact ⟨j + 1, by omega, by go_num, hO2, hB2⟩
          case measure => simp [intOf]; omega
    · obtain rfl : j = m := by omega
      have R : tabl j (midC vs us rs j 0) = csL vs us rs := by
        unfold csL
        rw [HY.out.len]
        exact tabl_congr fun t ht => by simp [midC, midL, ht]
      rw [R] at hown
      clear R
      go_wp2
      go_ret
      exact ⟨_, _, rfl, OwnI.of_own hown (by omega), hbw⟩

def csV (vs : List (ByteArray × Int)) (rs : List RecD) (us : List Int) : List Int := if keyedB vs rs us = true then csL vs us rs else []
def uqV (vs : List (ByteArray × Int)) (rs : List RecD) (us : List Int) : List Int := if keyedB vs rs us = true then uqL vs us rs else []

set_option maxHeartbeats 2000000 in
theorem liUnique_any (A B U : Option Addr) (n c m d l k' : Nat) (vs : List (ByteArray × Int)) (rs : List RecD) (us : List Int) (w : World) (hx : SchR w A n c vs) (hy : DatR w B m rs) (hu : IntR w U l us) (hk : AllOk vs rs us n) :
    Calls Tryz.prog 46 #[.slice A n c, .slice B m d, .slice U l k'] w fun e w' => ∃ A' c', e = .returned (.slice A' (uqL vs us rs).length c') ∧ OwnI w' w.heap.size w'.heap.size A' (uqL vs us rs).length c' (uqL vs us rs) ∧ Below w.heap.size w w' := by
  have hm40 : m ≤ 40 := by have := hk.forty; rw [hy.len] at this; exact this
  have hml := Lib.hid hy.len
  have HU := Lib.hid (show linkK (fun i => decide ((setL vs us rs rs i).length = 1)) m = uqL vs us rs by unfold uqL; rw [hml.out])
  go_enter Tryz.func46, Tryz.ntmps46
  go_wp2_with fail
  refine (liSets_any _ _ _ _ n _ m _ m _ l _ vs rs rs us _ hx hy hy hu hk hk).mono ?_
  rintro e w1 ⟨A1, c1, rfl, o1, b1⟩
  have O1 := Lib.hid o1.read
  have hsz1 := b1.size
  have HB1 := Lib.hid b1
  clear o1 b1 hx hy hu
  have HL := Lib.hid (fun j => setL_le (vs := vs) (us := us) (rs := rs) hml.out (by omega) j)
  generalize setL vs us rs rs = L at *
  generalize hp : (fun i => decide ((L i).length = 1)) = p at *
  have HP := Lib.hid (fun i => (show p i = decide ((L i).length = 1) by rw [← hp]))
  clear hp
  go_wp2
  go_loopw [7, 16] (fun a i wr => ∃ (j : Nat) (B : Option Addr) (c2 : Nat), j ≤ m ∧ i = .int .i64 j ∧ a = .slice B (linkK p j).length c2 ∧ Own wr w1.heap.size B (linkK p j).length c2 (linkK p j) ∧ Below w1.heap.size w1 wr) (fun _ i _ => m - (intOf i).toNat)
  case atStart => exact ⟨0, none, 0, Nat.zero_le _, rfl, rfl, Own.nil_, Below.refl _ _⟩
  case round =>
    obtain ⟨j, B2, c2, hj, rfl, rfl, hown, hbw⟩ := hrel
    by_cases hlt : j < m
    · obtain ⟨ad, rfl, V, cv, hcv, _⟩ := (O1.out.below hbw).at_ hlt
      have hll := HL.out j
      have hkl := linkK_len p j
      have HPj := Lib.hid (HP.out j)
      generalize (L j).length = q at *
      have hsz := hbw.size
      by_cases hq : q = 1
      · have hq' : ((q : Int) == 1) = true := by simp [hq]
        have HJ := Lib.hid (linkK_yes (p := p) (k := j) (by rw [HPj.out, hq]; rfl))
        have HJ2 := Lib.hid (show (linkK p (j + 1)).length = (linkK p j).length + 1 by rw [HJ.out]; simp)
        clear hq
        generalize linkK p j = K0 at *
        generalize K0.length = k0 at *
        go_wp2_with (at_builtin; refine wp_app1 (v := (j : Int)) rfl _ _ rfl w1.heap.size B2 k0 c2 K0 rfl hown _ rfl rfl (by omega) hsz ?_; intro A3 c3 w3 hown3 hg3 _)
        have hb3 := Lib.hid (below_write hbw hg3 hsz (fun k hk => (hown.row_ge k hk).1))
        rw [← HJ.out] at hown3
        have HO := Lib.hid hown3
        clear hown hbw hg3 hown3
        go_wp2
        go_roundw
        case rel => exact ⟨j + 1, A3, c3, by omega, by go_num, by rw [HJ2.out], by rw [HJ2.out]; exact HO.out, hb3.out⟩
        case measure => simp [intOf]; omega
      · have hq' : ((q : Int) == 1) = false := by rw [beq_eq_false_iff_ne]; omega
        have HJ := Lib.hid (linkK_no (p := p) (k := j) (by rw [HPj.out, decide_eq_false hq]))
        clear hq
        go_wp2
        go_roundw
        case rel => exact ⟨j + 1, B2, c2, by omega, by go_num, by rw [HJ.out], by rw [HJ.out]; exact hown, hbw⟩
        case measure => simp [intOf]; omega
    · obtain rfl : j = m := by omega
      have hkl := linkK_len p j
      rw [HU.out] at hown hkl ⊢
      go_wp2
      go_ret
      exact ⟨B2, c2, rfl, (OwnI.of_own hown (by omega)).fit hsz1, HB1.out.trans (hbw.mono hsz1)⟩

set_option maxHeartbeats 2000000 in
theorem implUniqueRecords_law (A B U : Option Addr) (n c m d l k' : Nat) (vs : List (ByteArray × Int)) (rs : List RecD) (us : List Int) (w : World) (hx : SchR w A n c vs) (hy : DatR w B m rs) (hu : IntR w U l us) :
    Calls Tryz.prog 16 #[.slice A n c, .slice B m d, .slice U l k'] w (RetInts w (uqV vs rs us) (keyedB vs rs us)) := by
  have hlen := hx.len
  cases hB : keyedB vs rs us
  · have HB := Lib.hid hB
    have HN := Lib.hid (show uqV vs rs us = [] by rw [uqV, if_neg (by simp [hB])])
    rw [HN.out]
    clear hB hlen
    go_enter Tryz.func16, Tryz.ntmps16
    go_wp2_with fail
    refine (areKeyed_any _ _ _ n _ m _ l _ vs rs us _ hx hy hu).mono ?_
    rintro e w1 ⟨rfl, b1⟩
    rw [HB.out]
    have B1 := Lib.hid b1
    clear b1 hx hy hu
    go_wp2
    go_ret2
    exact ⟨none, 0, rfl, OwnI.nil_, B1.out⟩
  · have HB := Lib.hid hB
    have HN := Lib.hid (show uqV vs rs us = uqL vs us rs by rw [uqV, if_pos hB])
    have hk := keyed_all hlen hB
    have hm40 : m ≤ 40 := by have := hk.forty; rw [hy.len] at this; exact this
    have hml := Lib.hid hy.len
    have HU := Lib.hid (show linkK (fun i => decide ((setL vs us rs rs i).length = 1)) m = uqL vs us rs by unfold uqL; rw [hml.out])
    rw [HN.out]
    clear hB hlen
    go_enter Tryz.func16, Tryz.ntmps16
    go_wp2_with fail
    refine (areKeyed_any _ _ _ n _ m _ l _ vs rs us _ hx hy hu).mono ?_
    rintro e w1 ⟨rfl, b1⟩
    rw [HB.out]
    go_wp2_with fail
    refine (classSizes_any _ _ _ n _ m _ l _ vs rs us _ (hx.below b1) (hy.below b1) (hu.below b1) hk).mono ?_
    rintro e w2 ⟨A2, c2, rfl, o2, b2⟩
    have HB2 := Lib.hid (b1.trans (b2.mono b1.size))
    have hsz2 := HB2.out.size
    have O2 := Lib.hid o2.ints
    clear b1 b2 o2 hx hy hu
    have HL := Lib.hid (fun j => setL_le (vs := vs) (us := us) (rs := rs) hml.out (by omega) j)
    have HC := Lib.hid (fun j (hj : j < m) => (show (csL vs us rs)[j]?.getD 0 = ((setL vs us rs rs j).length : Int) from tabl_at (by rw [hml.out]; exact hj)))
    generalize csL vs us rs = cs at *
    generalize setL vs us rs rs = L at *
    generalize hp : (fun i => decide ((L i).length = 1)) = p at *
    have HP := Lib.hid (fun i => (show p i = decide ((L i).length = 1) by rw [← hp]))
    clear hp
    go_wp2
    go_loopw [8, 21] (fun a i wr => ∃ (j : Nat) (B : Option Addr) (c2 : Nat), j ≤ m ∧ i = .int .i64 j ∧ a = .slice B (linkK p j).length c2 ∧ Own wr w2.heap.size B (linkK p j).length c2 (linkK p j) ∧ Below w2.heap.size w2 wr) (fun _ i _ => m - (intOf i).toNat)
    case atStart => exact ⟨0, none, 0, Nat.zero_le _, rfl, rfl, Own.nil_, Below.refl _ _⟩
    case round =>
      obtain ⟨j, B2, c2, hj, rfl, rfl, hown, hbw⟩ := hrel
      by_cases hlt : j < m
      · obtain ⟨ad, rfl, hcv⟩ := (O2.out.below hbw).at_ hlt
        rw [HC.out j hlt] at hcv
        have hll := HL.out j
        have hkl := linkK_len p j
        have HPj := Lib.hid (HP.out j)
        generalize (L j).length = q at *
        have hsz := hbw.size
        by_cases hq : q = 1
        · have hq' : ((q : Int) == 1) = true := by simp [hq]
          have HJ := Lib.hid (linkK_yes (p := p) (k := j) (by rw [HPj.out, hq]; rfl))
          have HJ2 := Lib.hid (show (linkK p (j + 1)).length = (linkK p j).length + 1 by rw [HJ.out]; simp)
          clear hq
          generalize linkK p j = K0 at *
          generalize K0.length = k0 at *
          go_wp2_with (at_builtin; refine wp_app1 (v := (j : Int)) rfl _ _ rfl w2.heap.size B2 k0 c2 K0 rfl hown _ rfl rfl (by omega) hsz ?_; intro A3 c3 w3 hown3 hg3 _)
          have hb3 := Lib.hid (below_write hbw hg3 hsz (fun k hk => (hown.row_ge k hk).1))
          rw [← HJ.out] at hown3
          have HO := Lib.hid hown3
          clear hown hbw hg3 hown3
          go_wp2
          go_roundw
          case rel => exact ⟨j + 1, A3, c3, by omega, by go_num, by rw [HJ2.out], by rw [HJ2.out]; exact HO.out, hb3.out⟩
          case measure => simp [intOf]; omega
        · have hq' : ((q : Int) == 1) = false := by rw [beq_eq_false_iff_ne]; omega
          have HJ := Lib.hid (linkK_no (p := p) (k := j) (by rw [HPj.out, decide_eq_false hq]))
          clear hq
          go_wp2
          go_roundw
          case rel => exact ⟨j + 1, B2, c2, by omega, by go_num, by rw [HJ.out], by rw [HJ.out]; exact hown, hbw⟩
          case measure => simp [intOf]; omega
      · obtain rfl : j = m := by omega
        have hkl := linkK_len p j
        rw [HU.out] at hown hkl ⊢
        go_wp2
        go_ret2
        exact ⟨B2, c2, rfl, (OwnI.of_own hown (by omega)).fit hsz2, HB2.out.trans (hbw.mono hsz2)⟩

end Go.Proofs.YtgeilnkglbcmeaaGreat
