/- The cells of a table, of the program and of the reference; printed by gto.py. -/
import Derived.Test.YtfanpbfmnckmnaaGreatYh
import Derived.Test.YtfanpbfmnckmnaaGreatSrvA
import Derived.Test.YtfanpbfmnckmnaaGreatZr
import Derived.Deep.OwnRows
namespace Go.Proofs.YtfanpbfmnckmnaaGreat
open Go.RowKit

theorem cellA_eq {ps : List Int} {vs : List (ByteArray × Int)} {t : TabD} {x : Int} {xs : List Int} (h : 0 ≤ cellI ps vs t x xs) : cellA ps t x xs = amtV t xs := by
  unfold cellA
  rw [if_neg fun h9 => by have := (cellI_no (vs := vs) h9).1; omega]
theorem sur_rec {ps : List Int} {vs : List (ByteArray × Int)} {rs : List RecD} {g z j : Nat} (h : surB ps vs rs = true) (hg : ps.length = g) (hz : rs.length = z) (hj : j < z) : valsB vs (rV rs j) = true ∧ 0 ≤ rA rs j ∧ rA rs j < g := by
  unfold surB at h
  simp only [Bool.and_eq_true] at h
  have h1 := (dataB_of h.1).2 j (by omega)
  have h2 : atLeaf ps (rA rs j) = true := allTo_of h.2 j (by omega)
  unfold atLeaf at h2
  rw [Bool.and_eq_true] at h2
  have h3 := inR_of h2.1
  exact ⟨recB_vals h1, by omega, by omega⟩
theorem sur_data {ps : List Int} {vs : List (ByteArray × Int)} {rs : List RecD} (h : surB ps vs rs = true) : dataB vs rs = true := by
  unfold surB at h
  simp only [Bool.and_eq_true] at h
  exact h.1
theorem TabOk.cntN {ps : List Int} {vs : List (ByteArray × Int)} {t : TabD} {g n : Nat} (h : TabOk ps vs t g n) : ((lvl ps t.lv g).length : Int) * prodN vs t.vars t.vars.length = ((cntV ps vs t).toNat : Nat) ∧ 1 ≤ (cntV ps vs t).toNat ∧ (cntV ps vs t).toNat ≤ 600 := by
  have h1 := h.cnt
  have h2 := h.most
  unfold cntV
  rw [h.geo.len]
  omega

set_option maxRecDepth 100000 in
set_option maxHeartbeats 2000000 in
theorem tableOf_any (P A V U Z : Option Addr) (g cg n c m d k e z cz : Nat) (ps : List Int) (t : TabD) (vs : List (ByteArray × Int)) (rs : List RecD) (w : World) (h : TabOk ps vs t g n) (hd : surB ps vs rs = true) (hX : IntR w P g ps) (hS : SchR w A n c vs) (hT : TabR w V m U k t) (hD : DatR w Z z rs) :
    Calls Tryz.prog 103 #[.agg #[.slice P g cg], .slice A n c, .agg #[.int .i64 t.lv, .slice V m d, .slice U k e, .int .i64 t.sum], .slice Z z cz] w fun e w' => ∃ A' c', e = .returned (.slice A' (cntV ps vs t).toNat c') ∧ Own w' w.heap.size A' (cntV ps vs t).toNat c' (tblV ps vs t rs) ∧ Below w.heap.size w w' := by
  have HTO := Lib.hid h
  have HSU := Lib.hid hd
  have hz := Lib.hid hD.len
  have hgl := Lib.hid h.geo.len
  have HEN := Lib.hid (show tblV ps vs t rs = tblN ps vs t rs z by unfold tblV; rw [hz.out])
  have hz40 : z ≤ 40 := by have := (dataB_of (sur_data hd)).1; have := hz.out; omega
  have HLE := Lib.hid (fun j : Nat => tblN_len (ps := ps) (vs := vs) (t := t) (rs := rs) j)
  have HBD := Lib.hid (tblN_bd h (sur_data hd))
  have hN := h.cntN
  obtain ⟨N, hNe⟩ : ∃ N, (cntV ps vs t).toNat = N := ⟨_, rfl⟩
  have HNE := Lib.hid hNe
  rw [hNe] at hN ⊢
  have HN := Lib.hid hN.1
  have hN1 := hN.2
  clear hN hNe h hd
  obtain ⟨b0, xg, xt⟩ := box_two w #[.slice P g cg] #[.int .i64 t.lv, .slice V m d, .slice U k e, .int .i64 t.sum] 36 56
  replace hX := hX.below b0
  replace hS := hS.below b0
  replace hT := hT.below b0
  replace hD := hD.below b0
  have HB := Lib.hid b0
  have Xg := Lib.hid xg
  have Xt := Lib.hid xt
  clear b0 xg xt
  go_enter Tryz.func103, Tryz.ntmps103
  have lg := lt_of_block Xg.out
  have cg0 := bxc Xg.out 0 _ rfl
  have lt := lt_of_block Xt.out
  have ct0 := bxc Xt.out 0 _ rfl
  have ct1 := bxc Xt.out 1 _ rfl
  have ct2 := bxc Xt.out 2 _ rfl
  have ct3 := bxc Xt.out 3 _ rfl
  go_wp2_with fail
  clear lg cg0 lt ct0 ct1 ct2 ct3
  generalize (w.alloc (.cells #[.slice P g cg] 36)).alloc (.cells #[.int .i64 t.lv, .slice V m d, .slice U k e, .int .i64 t.sum] 56) = w0 at *
  refine (cellCount_any P A V U g cg n c m d k e ps t vs _ HTO.out.geo hX hS hT HTO.out.part).mono ?_
  rintro e w1 ⟨rfl, b1⟩
  replace Xg := Lib.hid (bxb Xg.out b1)
  replace Xt := Lib.hid (bxb Xt.out b1)
  replace hX := hX.below b1
  replace hS := hS.below b1
  replace hT := hT.below b1
  replace hD := hD.below b1
  replace HB := Lib.hid (HB.out.trans (b1.mono HB.out.size))
  clear b1
  rw [HN.out]
  have hmk : ∀ W : World, (Instr.makeSlice 22 (.int .i64 (N : Int)) (.int .i64 (N : Int))).run Tryz.prog W = .ok (.slice (some ⟨W.heap.size, 0, none⟩) N N) (W.alloc (.cells (madeCells #[.int .i64 0] N) 3)) := fun W => run_make_row' 22 3 (.int .i64 0) 8 Tryz.underlying22 Tryz.infoInt rfl .i64 .i64 N (by omega) (by omega) W
  have hown : Own (w1.alloc (.cells (madeCells #[.int .i64 0] N) 3)) w1.heap.size (some ⟨w1.heap.size, 0, none⟩) N N (tblN ps vs t rs 0) := by rw [show tblN ps vs t rs 0 = List.replicate N 0 by rw [tblN, HNE.out]]; exact own_made w1 N (by omega)
  have HO := Lib.hid hown
  have HB2 := Lib.hid (below_new w1 (.cells (madeCells #[.int .i64 0] N) 3))
  have HX := Lib.hid hX
  have HS := Lib.hid hS
  have HT := Lib.hid hT
  have HD := Lib.hid hD
  have s1 := HB.out.size
  clear hown hX hS hT hD
  go_wp2
  clear hmk
  generalize w1.alloc (.cells (madeCells #[.int .i64 0] N) 3) = w2 at *
  go_loopw [21] (fun i wr => ∃ j : Nat, j ≤ z ∧ i = .int .i64 j ∧ Hid (Own wr w1.heap.size (some ⟨w1.heap.size, 0, none⟩) N N (tblN ps vs t rs j)) ∧ Hid (Below w1.heap.size w1 wr)) (fun i _ => z - (intOf i).toNat)
  case atStart => exact ⟨0, Nat.zero_le _, rfl, HO, HB2⟩
  case round =>
    clear HO HB2
    obtain ⟨j, hj, rfl, HO, HB5⟩ := hrel
    have s5 := HB5.out.size
    by_cases hlt : j < z
    · obtain ⟨ad, rfl, c0, c1, Vr, lv, cv, c2, hv⟩ := HD.out.r.later HB5.out hlt
      obtain ⟨hv1, hx0, hxg⟩ := sur_rec HSU.out hgl.out hz.out hlt
      have hlv : lv ≤ 1099511627776 := by have := HD.out.s j hlt; rw [hv.1] at this; exact this
      have hcb := HTO.out.cell hv1 hx0 hxg
      have hab := HTO.out.amt hv1
      have hbd := HBD.out j (by have := hz.out; omega) (cellI ps vs t (rA rs j) (rV rs j)).toNat
      rw [HN.out] at hcb
      have HAE := Lib.hid (cellA_eq (ps := ps) (vs := vs) (t := t) (x := rA rs j) (xs := rV rs j))
      have RY := Lib.hid (tblN_yes (ps := ps) (vs := vs) (t := t) (rs := rs) (k := j))
      have RN := Lib.hid (tblN_no (ps := ps) (vs := vs) (t := t) (rs := rs) (k := j))
      have HV1 := Lib.hid hv1
      have HRV := Lib.hid (IntR.mk hv hlv)
      clear hv hv1 hlv
      obtain ⟨x, hxe⟩ : ∃ x, rA rs j = x := ⟨_, rfl⟩
      obtain ⟨y, hye⟩ : ∃ y, rH rs j = y := ⟨_, rfl⟩
      obtain ⟨xs, hse⟩ : ∃ xs, rV rs j = xs := ⟨_, rfl⟩
      rw [hxe] at c0 hx0 hxg hcb hbd HAE RY RN
      rw [hye] at c1
      rw [hse] at hcb hab hbd HAE RY RN HV1 HRV
      clear hxe hye hse
      have b6 := below_new wr (.cells #[.int .i64 x, .int .i64 y, .slice Vr lv cv] 135)
      have x6 := box_new wr #[.int .i64 x, .int .i64 y, .slice Vr lv cv] 135
      have HB6 := Lib.hid (HB5.out.trans (b6.mono s5))
      have HO6 := Lib.hid (HO.out.below b6)
      have HR6 := Lib.hid ((HRV.out.below HB5.out).below b6)
      have xg5 := bxb Xg.out HB5.out
      have xt5 := bxb Xt.out HB5.out
      have Yg := Lib.hid (bxb xg5 b6)
      have Yt := Lib.hid (bxb xt5 b6)
      have HX6 := Lib.hid (HX.out.below HB6.out)
      have HS6 := Lib.hid (HS.out.below HB6.out)
      have HT6 := Lib.hid (HT.out.below HB6.out)
      clear xg5 xt5 HB5 HO HRV b6
      have lg := lt_of_block Yg.out
      have lt := lt_of_block Yt.out
      have lr := lt_of_block x6
      have cg0 := bxc Yg.out 0 _ rfl
      have ct0 := bxc Yt.out 0 _ rfl
      have ct1 := bxc Yt.out 1 _ rfl
      have ct2 := bxc Yt.out 2 _ rfl
      have ct3 := bxc Yt.out 3 _ rfl
      have cr0 := bxc x6 0 _ rfl
      have cr1 := bxc x6 1 _ rfl
      have cr2 := bxc x6 2 _ rfl
      have HX6r := x6
      clear x6
      go_wp2_with fail
      clear c0 c1 c2 lg lt lr cg0 ct0 ct1 ct2 ct3 cr0 cr1 cr2
      generalize wr.alloc (.cells #[.int .i64 x, .int .i64 y, .slice Vr lv cv] 135) = w6 at *
      refine (contribution_any P A V U Vr g cg n c m d k e lv cv x y ps t vs xs _ HTO.out HV1.out hx0 hxg HX6.out HS6.out HT6.out HR6.out).mono ?_
      rintro e w7 ⟨rfl, b7⟩
      have HO7 := Lib.hid (HO6.out.below b7)
      have HB7 := Lib.hid (HB6.out.trans (b7.mono HB6.out.size))
      clear b7 HO6 HB6 HX6 HS6 HT6 HR6 HX6r Yg Yt
      generalize cellI ps vs t x xs = ci at *
      by_cases hc : 0 ≤ ci
      · rw [HAE.out hc]
        have RR := Lib.hid (RY.out hc)
        clear RY RN HAE
        obtain ⟨q, rfl⟩ := Int.eq_ofNat_of_zero_le hc
        have hq : q < N := by omega
        rw [Int.toNat_natCast] at RR hbd
        obtain ⟨_, ea, _, hlo, hco, hfo⟩ := HO7.out.at_ hq
        injection ea with ea
        injection ea with ea
        subst ea
        generalize amtV t xs = am at *
        obtain ⟨vv, hvv⟩ : ∃ vv, (tblN ps vs t rs j)[q]?.getD 0 = vv := ⟨_, rfl⟩
        rw [hvv] at hco hbd RR
        clear hvv
        have HO8 := Lib.hid (show Own (w7.setCell ⟨w1.heap.size, q, none⟩ (.int .i64 (vv + am))) w1.heap.size (some ⟨w1.heap.size, 0, none⟩) N N (tblN ps vs t rs (j + 1)) by rw [RR.out]; exact HO7.out.set)
        have HB8 := Lib.hid (HB7.out.setCell (p := ⟨w1.heap.size, q, none⟩) (Nat.le_refl _) (.int .i64 (vv + am)))
        clear HO7 HB7 RR hcb
        go_wp2
        go_roundw
        case rel => exact ⟨j + 1, by omega, by go_num, HO8, HB8⟩
        case measure => simp [intOf]; omega
      · have RR := Lib.hid (RN.out (by omega))
        have HO8 := Lib.hid (show Own w7 w1.heap.size (some ⟨w1.heap.size, 0, none⟩) N N (tblN ps vs t rs (j + 1)) by rw [RR.out]; exact HO7.out)
        clear RY RN HAE RR HO7
        generalize cellA ps t x xs = am at *
        go_wp2
        go_roundw
        case rel => exact ⟨j + 1, by omega, by go_num, HO8, HB7⟩
        case measure => simp [intOf]; omega
    · obtain rfl : j = z := by omega
      go_wp2
      go_ret
      exact ⟨_, _, rfl, by rw [HEN.out]; exact HO.out.mono s1, HB.out.trans (HB5.out.mono s1)⟩

set_option maxRecDepth 100000 in
set_option maxHeartbeats 2000000 in
theorem uTable_any (P A V U Z : Option Addr) (g cg n c m d k e z cz : Nat) (ps : List Int) (t : TabD) (vs : List (ByteArray × Int)) (rs : List RecD) (w : World) (h : TabOk ps vs t g n) (hd : surB ps vs rs = true) (hX : IntR w P g ps) (hS : SchR w A n c vs) (hT : TabR w V m U k t) (hD : DatR w Z z rs) :
    Calls Tryz.prog 134 #[.agg #[.slice P g cg], .slice A n c, .agg #[.int .i64 t.lv, .slice V m d, .slice U k e, .int .i64 t.sum], .slice Z z cz] w fun e w' => ∃ A' c', e = .returned (.slice A' (cntV ps vs t).toNat c') ∧ Own w' w.heap.size A' (cntV ps vs t).toNat c' (tblV ps vs t rs) ∧ Below w.heap.size w w' := by
  have HTO := Lib.hid h
  have HSU := Lib.hid hd
  have hz := Lib.hid hD.len
  have hgl := Lib.hid h.geo.len
  have HEN := Lib.hid (show tblV ps vs t rs = tblN ps vs t rs z by unfold tblV; rw [hz.out])
  have hz40 : z ≤ 40 := by have := (dataB_of (sur_data hd)).1; have := hz.out; omega
  have HLE := Lib.hid (fun j : Nat => tblN_len (ps := ps) (vs := vs) (t := t) (rs := rs) j)
  have HBD := Lib.hid (tblN_bd h (sur_data hd))
  have hN := h.cntN
  obtain ⟨N, hNe⟩ : ∃ N, (cntV ps vs t).toNat = N := ⟨_, rfl⟩
  have HNE := Lib.hid hNe
  rw [hNe] at hN ⊢
  have HN := Lib.hid hN.1
  have hN1 := hN.2
  clear hN hNe h hd
  obtain ⟨b0, xg, xt⟩ := box_two w #[.slice P g cg] #[.int .i64 t.lv, .slice V m d, .slice U k e, .int .i64 t.sum] 36 56
  replace hX := hX.below b0
  replace hS := hS.below b0
  replace hT := hT.below b0
  replace hD := hD.below b0
  have HB := Lib.hid b0
  have Xg := Lib.hid xg
  have Xt := Lib.hid xt
  clear b0 xg xt
  go_enter Tryz.func134, Tryz.ntmps134
  have lg := lt_of_block Xg.out
  have cg0 := bxc Xg.out 0 _ rfl
  have lt := lt_of_block Xt.out
  have ct0 := bxc Xt.out 0 _ rfl
  have ct1 := bxc Xt.out 1 _ rfl
  have ct2 := bxc Xt.out 2 _ rfl
  have ct3 := bxc Xt.out 3 _ rfl
  go_wp2_with fail
  clear lg cg0 lt ct0 ct1 ct2 ct3
  generalize (w.alloc (.cells #[.slice P g cg] 36)).alloc (.cells #[.int .i64 t.lv, .slice V m d, .slice U k e, .int .i64 t.sum] 56) = w0 at *
  refine (uCount_any P A V U g cg n c m d k e ps t vs _ HTO.out.geo hX hS hT HTO.out.part).mono ?_
  rintro e w1 ⟨rfl, b1⟩
  replace Xg := Lib.hid (bxb Xg.out b1)
  replace Xt := Lib.hid (bxb Xt.out b1)
  replace hX := hX.below b1
  replace hS := hS.below b1
  replace hT := hT.below b1
  replace hD := hD.below b1
  replace HB := Lib.hid (HB.out.trans (b1.mono HB.out.size))
  clear b1
  rw [HN.out]
  have hmk : ∀ W : World, (Instr.makeSlice 22 (.int .i64 (N : Int)) (.int .i64 (N : Int))).run Tryz.prog W = .ok (.slice (some ⟨W.heap.size, 0, none⟩) N N) (W.alloc (.cells (madeCells #[.int .i64 0] N) 3)) := fun W => run_make_row' 22 3 (.int .i64 0) 8 Tryz.underlying22 Tryz.infoInt rfl .i64 .i64 N (by omega) (by omega) W
  have hown : Own (w1.alloc (.cells (madeCells #[.int .i64 0] N) 3)) w1.heap.size (some ⟨w1.heap.size, 0, none⟩) N N (tblN ps vs t rs 0) := by rw [show tblN ps vs t rs 0 = List.replicate N 0 by rw [tblN, HNE.out]]; exact own_made w1 N (by omega)
  have HO := Lib.hid hown
  have HB2 := Lib.hid (below_new w1 (.cells (madeCells #[.int .i64 0] N) 3))
  have HX := Lib.hid hX
  have HS := Lib.hid hS
  have HT := Lib.hid hT
  have HD := Lib.hid hD
  have s1 := HB.out.size
  clear hown hX hS hT hD
  go_wp2
  clear hmk
  generalize w1.alloc (.cells (madeCells #[.int .i64 0] N) 3) = w2 at *
  go_loopw [21] (fun i wr => ∃ j : Nat, j ≤ z ∧ i = .int .i64 j ∧ Hid (Own wr w1.heap.size (some ⟨w1.heap.size, 0, none⟩) N N (tblN ps vs t rs j)) ∧ Hid (Below w1.heap.size w1 wr)) (fun i _ => z - (intOf i).toNat)
  case atStart => exact ⟨0, Nat.zero_le _, rfl, HO, HB2⟩
  case round =>
    clear HO HB2
    obtain ⟨j, hj, rfl, HO, HB5⟩ := hrel
    have s5 := HB5.out.size
    by_cases hlt : j < z
    · obtain ⟨ad, rfl, c0, c1, Vr, lv, cv, c2, hv⟩ := HD.out.r.later HB5.out hlt
      obtain ⟨hv1, hx0, hxg⟩ := sur_rec HSU.out hgl.out hz.out hlt
      have hlv : lv ≤ 1099511627776 := by have := HD.out.s j hlt; rw [hv.1] at this; exact this
      have hcb := HTO.out.cell hv1 hx0 hxg
      have hab := HTO.out.amt hv1
      have hbd := HBD.out j (by have := hz.out; omega) (cellI ps vs t (rA rs j) (rV rs j)).toNat
      rw [HN.out] at hcb
      have HAE := Lib.hid (cellA_eq (ps := ps) (vs := vs) (t := t) (x := rA rs j) (xs := rV rs j))
      have RY := Lib.hid (tblN_yes (ps := ps) (vs := vs) (t := t) (rs := rs) (k := j))
      have RN := Lib.hid (tblN_no (ps := ps) (vs := vs) (t := t) (rs := rs) (k := j))
      have HV1 := Lib.hid hv1
      have HRV := Lib.hid (IntR.mk hv hlv)
      clear hv hv1 hlv
      obtain ⟨x, hxe⟩ : ∃ x, rA rs j = x := ⟨_, rfl⟩
      obtain ⟨y, hye⟩ : ∃ y, rH rs j = y := ⟨_, rfl⟩
      obtain ⟨xs, hse⟩ : ∃ xs, rV rs j = xs := ⟨_, rfl⟩
      rw [hxe] at c0 hx0 hxg hcb hbd HAE RY RN
      rw [hye] at c1
      rw [hse] at hcb hab hbd HAE RY RN HV1 HRV
      clear hxe hye hse
      have b6 := below_new wr (.cells #[.int .i64 x, .int .i64 y, .slice Vr lv cv] 135)
      have x6 := box_new wr #[.int .i64 x, .int .i64 y, .slice Vr lv cv] 135
      have HB6 := Lib.hid (HB5.out.trans (b6.mono s5))
      have HO6 := Lib.hid (HO.out.below b6)
      have HR6 := Lib.hid ((HRV.out.below HB5.out).below b6)
      have xg5 := bxb Xg.out HB5.out
      have xt5 := bxb Xt.out HB5.out
      have Yg := Lib.hid (bxb xg5 b6)
      have Yt := Lib.hid (bxb xt5 b6)
      have HX6 := Lib.hid (HX.out.below HB6.out)
      have HS6 := Lib.hid (HS.out.below HB6.out)
      have HT6 := Lib.hid (HT.out.below HB6.out)
      clear xg5 xt5 HB5 HO HRV b6
      have lg := lt_of_block Yg.out
      have lt := lt_of_block Yt.out
      have lr := lt_of_block x6
      have cg0 := bxc Yg.out 0 _ rfl
      have ct0 := bxc Yt.out 0 _ rfl
      have ct1 := bxc Yt.out 1 _ rfl
      have ct2 := bxc Yt.out 2 _ rfl
      have ct3 := bxc Yt.out 3 _ rfl
      have cr0 := bxc x6 0 _ rfl
      have cr1 := bxc x6 1 _ rfl
      have cr2 := bxc x6 2 _ rfl
      have HX6r := x6
      clear x6
      go_wp2_with fail
      clear c0 c1 c2 lg lt lr cg0 ct0 ct1 ct2 ct3 cr0 cr1 cr2
      generalize wr.alloc (.cells #[.int .i64 x, .int .i64 y, .slice Vr lv cv] 135) = w6 at *
      refine (uCell_any P A V U Vr g cg n c m d k e lv cv x y ps t vs xs _ HTO.out HV1.out hx0 hxg HX6.out HS6.out HT6.out HR6.out).mono ?_
      rintro e w7 ⟨rfl, b7⟩
      have HO7 := Lib.hid (HO6.out.below b7)
      have HB7 := Lib.hid (HB6.out.trans (b7.mono HB6.out.size))
      clear b7 HO6 HB6 HX6 HS6 HT6 HR6 HX6r Yg Yt
      generalize cellI ps vs t x xs = ci at *
      by_cases hc : 0 ≤ ci
      · rw [HAE.out hc]
        have RR := Lib.hid (RY.out hc)
        clear RY RN HAE
        obtain ⟨q, rfl⟩ := Int.eq_ofNat_of_zero_le hc
        have hq : q < N := by omega
        rw [Int.toNat_natCast] at RR hbd
        obtain ⟨_, ea, _, hlo, hco, hfo⟩ := HO7.out.at_ hq
        injection ea with ea
        injection ea with ea
        subst ea
        generalize amtV t xs = am at *
        obtain ⟨vv, hvv⟩ : ∃ vv, (tblN ps vs t rs j)[q]?.getD 0 = vv := ⟨_, rfl⟩
        rw [hvv] at hco hbd RR
        clear hvv
        have HO8 := Lib.hid (show Own (w7.setCell ⟨w1.heap.size, q, none⟩ (.int .i64 (vv + am))) w1.heap.size (some ⟨w1.heap.size, 0, none⟩) N N (tblN ps vs t rs (j + 1)) by rw [RR.out]; exact HO7.out.set)
        have HB8 := Lib.hid (HB7.out.setCell (p := ⟨w1.heap.size, q, none⟩) (Nat.le_refl _) (.int .i64 (vv + am)))
        clear HO7 HB7 RR hcb
        go_wp2
        go_roundw
        case rel => exact ⟨j + 1, by omega, by go_num, HO8, HB8⟩
        case measure => simp [intOf]; omega
      · have RR := Lib.hid (RN.out (by omega))
        have HO8 := Lib.hid (show Own w7 w1.heap.size (some ⟨w1.heap.size, 0, none⟩) N N (tblN ps vs t rs (j + 1)) by rw [RR.out]; exact HO7.out)
        clear RY RN HAE RR HO7
        generalize cellA ps t x xs = am at *
        go_wp2
        go_roundw
        case rel => exact ⟨j + 1, by omega, by go_num, HO8, HB7⟩
        case measure => simp [intOf]; omega
    · obtain rfl : j = z := by omega
      go_wp2
      go_ret
      exact ⟨_, _, rfl, by rw [HEN.out]; exact HO.out.mono s1, HB.out.trans (HB5.out.mono s1)⟩
end Go.Proofs.YtfanpbfmnckmnaaGreat
