/- Plans and surveys: the tests of the program and of the reference; printed by gsa.py. -/
import Derived.Test.YtfanpbfmnckmnaaGreatTbsA
import Derived.Test.YtfanpbfmnckmnaaGreatYf
import Derived.Test.YtfanpbfmnckmnaaGreatYi
import Derived.Test.YtfanpbfmnckmnaaGreatZe
namespace Go.Proofs.YtfanpbfmnckmnaaGreat
open Go.RowKit

/-- The i-th table of a plan is valid. -/
def tabAt (ps : List Int) (vs : List (ByteArray × Int)) (ts : List TabD) (i : Nat) : Bool := tabB ps vs (tX ts i)
def leafAt (ps : List Int) (rs : List RecD) (j : Nat) : Bool := atLeaf ps (rA rs j)
theorem surB_1 {ps : List Int} {vs : List (ByteArray × Int)} {rs : List RecD} (h : dataB vs rs = false) : false = surB ps vs rs := by unfold surB; rw [h]; rfl
theorem surB_2 {ps : List Int} {vs : List (ByteArray × Int)} {rs : List RecD} {n j : Nat} (hl : rs.length = n) (hj : j < n) (h : leafAt ps rs j = false) : false = surB ps vs rs := by
  unfold surB; rw [show (fun j => atLeaf ps (rA rs j)) = leafAt ps rs from rfl, allTo_no (by omega) h]; simp
theorem surB_3 {ps : List Int} {vs : List (ByteArray × Int)} {rs : List RecD} {n : Nat} (hl : rs.length = n) (h1 : dataB vs rs = true) (h : allTo (leafAt ps rs) n = true) : true = surB ps vs rs := by
  unfold surB; rw [show (fun j => atLeaf ps (rA rs j)) = leafAt ps rs from rfl, hl, h1, h]; rfl
theorem atLeaf_1 {ps : List Int} {g : Nat} {i : Int} (hl : ps.length = g) (h : inR i 0 ((g : Int) - 1) = false) : atLeaf ps i = false := by unfold atLeaf; rw [hl, h]; rfl
theorem atLeaf_2 {ps : List Int} {g : Nat} {i : Int} (hl : ps.length = g) (h : inR i 0 ((g : Int) - 1) = true) : atLeaf ps i = leafB ps i := by unfold atLeaf; rw [hl, h]; rfl
/-- Geography, schema and survey are valid. -/
def usB (ps : List Int) (vs : List (ByteArray × Int)) (rs : List RecD) : Bool := geoB ps && (schB vs && surB ps vs rs)
theorem usB_1 {ps : List Int} {vs : List (ByteArray × Int)} {rs : List RecD} (h : geoB ps = false) : false = usB ps vs rs := by unfold usB; rw [h]; rfl
theorem usB_2 {ps : List Int} {vs : List (ByteArray × Int)} {rs : List RecD} (h : dinB vs rs = false) : false = usB ps vs rs := by
  unfold dinB at h; unfold usB surB; cases hs : schB vs <;> simp_all
theorem usB_3 {ps : List Int} {vs : List (ByteArray × Int)} {rs : List RecD} (h : false = surB ps vs rs) : false = usB ps vs rs := by unfold usB; rw [← h]; simp
theorem usB_4 {ps : List Int} {vs : List (ByteArray × Int)} {rs : List RecD} (h1 : geoB ps = true) (h2 : dinB vs rs = true) (h : true = surB ps vs rs) : true = usB ps vs rs := by
  unfold dinB at h2; unfold usB; rw [h1, ← h]; simp_all
theorem dinB_data {vs : List (ByteArray × Int)} {rs : List RecD} (h2 : dinB vs rs = true) : dataB vs rs = true := by unfold dinB at h2; simp_all

set_option maxRecDepth 100000 in
set_option maxHeartbeats 2000000 in
theorem isPlan_any (P A Z : Option Addr) (g cg n c p cp : Nat) (ps : List Int) (vs : List (ByteArray × Int)) (ts : List TabD) (w : World) (hG : geoB ps = true) (hs : schB vs = true) (h20 : p ≤ 20) (hX : IntR w P g ps) (hS : SchR w A n c vs) (hP : TabsR w Z p ts) :
    Calls Tryz.prog 60 #[.agg #[.slice P g cg], .slice A n c, .slice Z p cp] w fun e w' => e = .returned (.bool (allTo (tabAt ps vs ts) p)) ∧ Below w.heap.size w w' := by
  have hn := hS.bd
  have HG := Lib.hid hG
  have HS := Lib.hid hs
  have HK := Lib.hid (show GeoOk ps g by have := geoB_of hG; rwa [hX.len] at this)
  have b0 := below_new w (.cells #[.slice P g cg] 36)
  have x0 := box_new w #[.slice P g cg] 36
  replace hX := hX.below b0
  replace hS := hS.below b0
  replace hP := hP.below b0
  have HB := Lib.hid b0
  have Xg := Lib.hid x0
  clear hG hs b0 x0
  go_enter Tryz.func60, Tryz.ntmps60
  have l0 := lt_of_block Xg.out
  have c0 := bxc Xg.out 0 _ rfl
  go_wp2_with fail
  clear l0 c0
  generalize w.alloc (.cells #[.slice P g cg] 36) = w0 at *
  refine (IsGeo_any P g cg ps _ hX).mono ?_
  rintro e w1 ⟨rfl, b1⟩
  rw [HG.out]
  replace Xg := Lib.hid (bxb Xg.out b1)
  replace hX := hX.below b1
  replace hS := hS.below b1
  replace hP := hP.below b1
  replace HB := Lib.hid (HB.out.trans (b1.mono HB.out.size))
  clear b1
  go_wp2_with fail
  refine (IsSchema_any A n c vs _ hS.v hS.s hS.bd hS.cp).mono ?_
  rintro e w2 ⟨rfl, b1⟩
  rw [HS.out]
  replace Xg := Lib.hid (bxb Xg.out b1)
  replace hX := hX.below b1
  replace hS := hS.below b1
  replace hP := hP.below b1
  replace HB := Lib.hid (HB.out.trans (b1.mono HB.out.size))
  clear b1
  go_wp2
  go_loopw [24] (fun i wr => ∃ j : Nat, j ≤ p ∧ i = .int .i64 j ∧ Hid (allTo (tabAt ps vs ts) j = true) ∧ Below w2.heap.size w2 wr) (fun i _ => p - (intOf i).toNat)
  case atStart => exact ⟨0, Nat.zero_le _, rfl, Lib.hid (allTo_zero _), Below.refl _ _⟩
  case round =>
    obtain ⟨j, hj, rfl, hf, hbw⟩ := hrel
    have s0 := HB.out.size
    have s1 := hbw.size
    by_cases hlt : j < p
    · obtain ⟨ad, rfl, V', m', d', U', k', e', c0, c1, c2, c3, hu⟩ := (hP.below hbw).at_ hlt
      have bj := below_new wr (.cells #[.int .i64 (tX ts j).lv, .slice V' m' d', .slice U' k' e', .int .i64 (tX ts j).sum] 56)
      have XN := Lib.hid (box_new wr #[.int .i64 (tX ts j).lv, .slice V' m' d', .slice U' k' e', .int .i64 (tX ts j).sum] 56)
      have XJ := Lib.hid (bxb (bxb Xg.out hbw) bj)
      have HU := Lib.hid (hu.below bj)
      have HXX := Lib.hid ((hX.below hbw).below bj)
      have HSS := Lib.hid ((hS.below hbw).below bj)
      have HW := Lib.hid (hbw.trans (bj.mono hbw.size))
      have l0 := lt_of_block XJ.out
      have l1 := lt_of_block XN.out
      have p0 := bxc XJ.out 0 _ rfl
      have q0 := bxc XN.out 0 _ rfl
      have q1 := bxc XN.out 1 _ rfl
      have q2 := bxc XN.out 2 _ rfl
      have q3 := bxc XN.out 3 _ rfl
      have HA := Lib.hid (fun h => allTo_succ (p := tabAt ps vs ts) hf.out h)
      have HN := Lib.hid (fun (h : tabAt ps vs ts j = false) => show false = allTo (tabAt ps vs ts) p from (allTo_no hlt h).symm)
      clear hbw hu hX hS hP bj
      go_wp2_with fail
      clear p0 q0 q1 q2 q3 l0 l1 c0 c1 c2 c3
      generalize wr.alloc (.cells #[.int .i64 (tX ts j).lv, .slice V' m' d', .slice U' k' e', .int .i64 (tX ts j).sum] 56) = w4 at *
      refine (isTable_any P A V' U' g cg n c m' d' k' e' ps (tX ts j) vs _ HK.out HS.out HXX.out HSS.out HU.out).mono ?_
      rintro e w5 ⟨rfl, b5⟩
      have HW5 := Lib.hid (HW.out.trans (b5.mono HW.out.size))
      clear b5 HW XJ XN HXX HSS HU
      rw [show tabB ps vs (tX ts j) = tabAt ps vs ts j from rfl]
      cases hs : tabAt ps vs ts j
      · have R := Lib.hid (HN.out hs)
        clear hs HA HN
        go_wp2
        go_ret
        exact ⟨ret_bool R.out, HB.out.trans (HW5.out.mono s0)⟩
      · have HF := Lib.hid (HA.out hs)
        clear hs HA HN
        go_wp2
        go_roundw
        case rel => exact ⟨j + 1, by omega, by go_num, HF, HW5.out⟩
        case measure => simp [intOf]; omega
    · obtain rfl : j = p := by omega
      have R := Lib.hid hf.out.symm
      clear hX hS hP
      go_wp2
      go_ret
      exact ⟨ret_bool R.out, HB.out.trans (hbw.mono s0)⟩

set_option maxRecDepth 100000 in
set_option maxHeartbeats 2000000 in
theorem isSurvey_any (P A Z : Option Addr) (g cg n c m cm : Nat) (ps : List Int) (vs : List (ByteArray × Int)) (rs : List RecD) (w : World) (hX : IntR w P g ps) (hS : SchR w A n c vs) (hD : DatR w Z m rs) :
    Calls Tryz.prog 59 #[.agg #[.slice P g cg], .slice A n c, .slice Z m cm] w fun e w' => e = .returned (.bool (surB ps vs rs)) ∧ Below w.heap.size w w' := by
  have hn := hS.bd
  have hm := hD.bd
  have hl := Lib.hid hD.len
  have hgl := Lib.hid hX.len
  have b0 := below_new w (.cells #[.slice P g cg] 36)
  have x0 := box_new w #[.slice P g cg] 36
  replace hX := hX.below b0
  replace hS := hS.below b0
  replace hD := hD.below b0
  have HB := Lib.hid b0
  have Xg := Lib.hid x0
  clear b0 x0
  cases h1 : dataB vs rs
  · have R := Lib.hid (surB_1 (ps := ps) h1)
    have H1 := Lib.hid h1
    clear h1
    go_enter Tryz.func59, Tryz.ntmps59
    go_wp2_with fail
    generalize w.alloc (.cells #[.slice P g cg] 36) = w0 at *
    refine (isData_any _ _ n _ m _ vs rs _ hS hD).mono ?_
    rintro e w1 ⟨rfl, b1⟩
    rw [H1.out]
    replace Xg := Lib.hid (bxb Xg.out b1)
    replace hX := hX.below b1
    replace hS := hS.below b1
    replace hD := hD.below b1
    replace HB := Lib.hid (HB.out.trans (b1.mono HB.out.size))
    clear b1
    go_wp2
    go_ret
    exact ⟨ret_bool R.out, HB.out⟩
  have H1 := Lib.hid h1
  have HD := H1
  clear h1
  go_enter Tryz.func59, Tryz.ntmps59
  go_wp2_with fail
  generalize w.alloc (.cells #[.slice P g cg] 36) = w0 at *
  refine (isData_any _ _ n _ m _ vs rs _ hS hD).mono ?_
  rintro e w1 ⟨rfl, b1⟩
  rw [H1.out]
  replace Xg := Lib.hid (bxb Xg.out b1)
  replace hX := hX.below b1
  replace hS := hS.below b1
  replace hD := hD.below b1
  replace HB := Lib.hid (HB.out.trans (b1.mono HB.out.size))
  clear b1
  go_wp2
  go_loopw [15] (fun i wr => ∃ j : Nat, j ≤ m ∧ i = .int .i64 j ∧ Hid (allTo (leafAt ps rs) j = true) ∧ Below w1.heap.size w1 wr) (fun i _ => m - (intOf i).toNat)
  case atStart => exact ⟨0, Nat.zero_le _, rfl, Lib.hid (allTo_zero _), Below.refl _ _⟩
  case round =>
    obtain ⟨j, hj, rfl, hf, hbw⟩ := hrel
    have s0 := HB.out.size
    have s1 := hbw.size
    by_cases hlt : j < m
    · obtain ⟨ad, rfl, c0, c1, V, l, cc, c2, hv⟩ := (hD.below hbw).r.at_ hlt
      have bj := below_new wr (.cells #[.int .i64 (rA rs j), .int .i64 (rH rs j), .slice V l cc] 135)
      have XN := Lib.hid (box_new wr #[.int .i64 (rA rs j), .int .i64 (rH rs j), .slice V l cc] 135)
      have HW := Lib.hid (hbw.trans (bj.mono hbw.size))
      have HA := Lib.hid (fun h => allTo_succ (p := leafAt ps rs) hf.out h)
      have HN := Lib.hid (fun (h : leafAt ps rs j = false) => surB_2 (vs := vs) hl.out hlt h)
      have HL := Lib.hid (show leafAt ps rs j = atLeaf ps (rA rs j) from rfl)
      have HXX := Lib.hid ((hX.below hbw).below bj)
      have XJ := Lib.hid (bxb (bxb Xg.out hbw) bj)
      have l0 := lt_of_block XJ.out
      have l1 := lt_of_block XN.out
      have q0 := bxc XN.out 0 _ rfl
      have p0 := bxc XJ.out 0 _ rfl
      clear hbw hv hX hS hD bj
      generalize rA rs j = x at *
      generalize rH rs j = y at *
      cases ha : inR x 0 ((g : Int) - 1)
      · have R := Lib.hid (HN.out (HL.out.trans (atLeaf_1 hgl.out ha)))
        have HAR := Lib.hid ha
        clear ha HA HN HL
        go_wp2_with fail
        clear p0 q0 l0 l1 c0 c1 c2
        generalize wr.alloc (.cells #[.int .i64 x, .int .i64 y, .slice V l cc] 135) = w4 at *
        refine (isArea_any P g cg ps x _ HXX.out).mono ?_
        rintro e w5 ⟨rfl, b5⟩
        rw [HAR.out]
        have HXX5 := Lib.hid (HXX.out.below b5)
        have XJ5 := Lib.hid (bxb XJ.out b5)
        have XN5 := Lib.hid (bxb XN.out b5)
        have HW5 := Lib.hid (HW.out.trans (b5.mono HW.out.size))
        clear b5 HW XJ XN HXX
        go_wp2
        go_ret
        exact ⟨ret_bool R.out, HB.out.trans (HW5.out.mono s0)⟩
      have HAR := Lib.hid ha
      have HL2 := Lib.hid (HL.out.trans (atLeaf_2 hgl.out ha))
      clear ha HL
      go_wp2_with fail
      clear p0 q0 l0 l1 c0 c1 c2
      generalize wr.alloc (.cells #[.int .i64 x, .int .i64 y, .slice V l cc] 135) = w4 at *
      refine (isArea_any P g cg ps x _ HXX.out).mono ?_
      rintro e w5 ⟨rfl, b5⟩
      rw [HAR.out]
      have HXX5 := Lib.hid (HXX.out.below b5)
      have XJ5 := Lib.hid (bxb XJ.out b5)
      have XN5 := Lib.hid (bxb XN.out b5)
      have HW5 := Lib.hid (HW.out.trans (b5.mono HW.out.size))
      clear b5 HW XJ XN HXX
      have l0 := lt_of_block XJ5.out
      have l1 := lt_of_block XN5.out
      have q0 := bxc XN5.out 0 _ rfl
      have p0 := bxc XJ5.out 0 _ rfl
      go_wp2_with fail
      clear p0 q0 l0 l1
      refine (isLeaf_any P g cg ps x _ HXX5.out).mono ?_
      rintro e w6 ⟨rfl, b6⟩
      rw [← HL2.out]
      have HW6 := Lib.hid (HW5.out.trans (b6.mono HW5.out.size))
      clear b6 HW5 XJ5 XN5 HXX5
      cases hs : leafAt ps rs j
      · have R := Lib.hid (HN.out hs)
        clear hs HA HN
        go_wp2
        go_ret
        exact ⟨ret_bool R.out, HB.out.trans (HW6.out.mono s0)⟩
      · have HF := Lib.hid (HA.out hs)
        clear hs HA HN
        go_wp2
        go_roundw
        case rel => exact ⟨j + 1, by omega, by go_num, HF, HW6.out⟩
        case measure => simp [intOf]; omega
    · obtain rfl : j = m := by omega
      have R := Lib.hid (surB_3 (ps := ps) hl.out HD.out hf.out)
      clear hX hS hD
      go_wp2
      go_ret
      exact ⟨ret_bool R.out, HB.out.trans (hbw.mono s0)⟩

set_option maxRecDepth 100000 in
set_option maxHeartbeats 2000000 in
theorem uSurvey_any (P A Z : Option Addr) (g cg n c m cm : Nat) (ps : List Int) (vs : List (ByteArray × Int)) (rs : List RecD) (w : World) (hX : IntR w P g ps) (hS : SchR w A n c vs) (hD : DatR w Z m rs) :
    Calls Tryz.prog 106 #[.agg #[.slice P g cg], .slice A n c, .slice Z m cm] w fun e w' => e = .returned (.bool (usB ps vs rs)) ∧ Below w.heap.size w w' := by
  have hn := hS.bd
  have hm := hD.bd
  have hl := Lib.hid hD.len
  have hgl := Lib.hid hX.len
  have b0 := below_new w (.cells #[.slice P g cg] 36)
  have x0 := box_new w #[.slice P g cg] 36
  replace hX := hX.below b0
  replace hS := hS.below b0
  replace hD := hD.below b0
  have HB := Lib.hid b0
  have Xg := Lib.hid x0
  clear b0 x0
  cases h0 : geoB ps
  · have R := Lib.hid (usB_1 (vs := vs) (rs := rs) h0)
    have HG := Lib.hid h0
    clear h0
    go_enter Tryz.func106, Tryz.ntmps106
    have l0 := lt_of_block Xg.out
    have c0 := bxc Xg.out 0 _ rfl
    go_wp2_with fail
    clear l0 c0
    generalize w.alloc (.cells #[.slice P g cg] 36) = w0 at *
    refine (gGood_any P g cg ps _ hX).mono ?_
    rintro e w1 ⟨rfl, b1⟩
    rw [HG.out]
    replace Xg := Lib.hid (bxb Xg.out b1)
    replace hX := hX.below b1
    replace hS := hS.below b1
    replace hD := hD.below b1
    replace HB := Lib.hid (HB.out.trans (b1.mono HB.out.size))
    clear b1
    go_wp2
    go_ret
    exact ⟨ret_bool R.out, HB.out⟩
  have HG := Lib.hid h0
  have HK := Lib.hid (show GeoOk ps g by have := geoB_of h0; rwa [hgl.out] at this)
  clear h0
  cases h1 : dinB vs rs
  · have R := Lib.hid (usB_2 (ps := ps) h1)
    have H1 := Lib.hid h1
    clear h1
    go_enter Tryz.func106, Tryz.ntmps106
    have l0 := lt_of_block Xg.out
    have c0 := bxc Xg.out 0 _ rfl
    go_wp2_with fail
    clear l0 c0
    generalize w.alloc (.cells #[.slice P g cg] 36) = w0 at *
    refine (gGood_any P g cg ps _ hX).mono ?_
    rintro e w1 ⟨rfl, b1⟩
    rw [HG.out]
    replace Xg := Lib.hid (bxb Xg.out b1)
    replace hX := hX.below b1
    replace hS := hS.below b1
    replace hD := hD.below b1
    replace HB := Lib.hid (HB.out.trans (b1.mono HB.out.size))
    clear b1
    go_wp2_with fail
    refine (dInput_any _ _ n _ m _ vs rs _ hS hD).mono ?_
    rintro e w2 ⟨rfl, b1⟩
    rw [H1.out]
    replace Xg := Lib.hid (bxb Xg.out b1)
    replace hX := hX.below b1
    replace hS := hS.below b1
    replace hD := hD.below b1
    replace HB := Lib.hid (HB.out.trans (b1.mono HB.out.size))
    clear b1
    go_wp2
    go_ret
    exact ⟨ret_bool R.out, HB.out⟩
  have H1 := Lib.hid h1
  have HD := Lib.hid (dinB_data h1)
  have HLH := Lib.hid (fun (x : Int) => show hasB (lvsL ps g) x = atLeaf ps x by rw [← hgl.out]; exact lvsL_has)
  clear h1
  have hlv := Nat.le_trans (lvsL_len (ps := ps) g) HK.out.most
  go_enter Tryz.func106, Tryz.ntmps106
  have l0 := lt_of_block Xg.out
  have c0 := bxc Xg.out 0 _ rfl
  go_wp2_with fail
  clear l0 c0
  generalize w.alloc (.cells #[.slice P g cg] 36) = w0 at *
  refine (gGood_any P g cg ps _ hX).mono ?_
  rintro e w1 ⟨rfl, b1⟩
  rw [HG.out]
  replace Xg := Lib.hid (bxb Xg.out b1)
  replace hX := hX.below b1
  replace hS := hS.below b1
  replace hD := hD.below b1
  replace HB := Lib.hid (HB.out.trans (b1.mono HB.out.size))
  clear b1
  go_wp2_with fail
  refine (dInput_any _ _ n _ m _ vs rs _ hS hD).mono ?_
  rintro e w2 ⟨rfl, b1⟩
  rw [H1.out]
  replace Xg := Lib.hid (bxb Xg.out b1)
  replace hX := hX.below b1
  replace hS := hS.below b1
  replace hD := hD.below b1
  replace HB := Lib.hid (HB.out.trans (b1.mono HB.out.size))
  clear b1
  have l0 := lt_of_block Xg.out
  have c0 := bxc Xg.out 0 _ rfl
  go_wp2_with fail
  clear l0 c0
  refine (gLeaves_any P g cg ps _ hX HK.out.most).mono ?_
  rintro e w3 ⟨Al, cl, rfl, ol, b1⟩
  have hLv := IntR.mk ol.ints (by omega)
  clear ol
  replace Xg := Lib.hid (bxb Xg.out b1)
  replace hX := hX.below b1
  replace hS := hS.below b1
  replace hD := hD.below b1
  replace HB := Lib.hid (HB.out.trans (b1.mono HB.out.size))
  clear b1
  generalize lvsL ps g = LX at *
  go_wp2
  go_loopw [23] (fun i wr => ∃ j : Nat, j ≤ m ∧ i = .int .i64 j ∧ Hid (allTo (leafAt ps rs) j = true) ∧ Below w3.heap.size w3 wr) (fun i _ => m - (intOf i).toNat)
  case atStart => exact ⟨0, Nat.zero_le _, rfl, Lib.hid (allTo_zero _), Below.refl _ _⟩
  case round =>
    obtain ⟨j, hj, rfl, hf, hbw⟩ := hrel
    have s0 := HB.out.size
    have s1 := hbw.size
    by_cases hlt : j < m
    · obtain ⟨ad, rfl, c0, c1, V, l, cc, c2, hv⟩ := (hD.below hbw).r.at_ hlt
      have bj := below_new wr (.cells #[.int .i64 (rA rs j), .int .i64 (rH rs j), .slice V l cc] 135)
      have XN := Lib.hid (box_new wr #[.int .i64 (rA rs j), .int .i64 (rH rs j), .slice V l cc] 135)
      have HW := Lib.hid (hbw.trans (bj.mono hbw.size))
      have HA := Lib.hid (fun h => allTo_succ (p := leafAt ps rs) hf.out h)
      have HN := Lib.hid (fun (h : leafAt ps rs j = false) => surB_2 (vs := vs) hl.out hlt h)
      have HL := Lib.hid (show leafAt ps rs j = atLeaf ps (rA rs j) from rfl)
      have HLV := Lib.hid ((hLv.below hbw).below bj)
      have l1 := lt_of_block XN.out
      have q0 := bxc XN.out 0 _ rfl
      clear hbw hv hX hS hD bj hLv
      generalize rA rs j = x at *
      generalize rH rs j = y at *
      go_wp2_with fail
      clear q0 l1 c0 c1 c2
      generalize wr.alloc (.cells #[.int .i64 x, .int .i64 y, .slice V l cc] 135) = w4 at *
      refine (l1Has_any _ _ _ x LX _ HLV.out).mono ?_
      rintro e w5 ⟨rfl, rfl⟩
      rw [HLH.out, ← HL.out]
      clear XN HLV
      cases hs : leafAt ps rs j
      · have R := Lib.hid (usB_3 (HN.out hs))
        clear hs HA HN
        go_wp2
        go_ret
        exact ⟨ret_bool R.out, HB.out.trans (HW.out.mono s0)⟩
      · have HF := Lib.hid (HA.out hs)
        clear hs HA HN
        go_wp2
        go_roundw
        case rel => exact ⟨j + 1, by omega, by go_num, HF, HW.out⟩
        case measure => simp [intOf]; omega
    · obtain rfl : j = m := by omega
      have R := Lib.hid (usB_4 HG.out H1.out (surB_3 hl.out HD.out hf.out))
      clear hX hS hD
      go_wp2
      go_ret
      exact ⟨ret_bool R.out, HB.out.trans (hbw.mono s0)⟩
end Go.Proofs.YtfanpbfmnckmnaaGreat
