/- KeepsCounts of the program, at valid data with equal counts; printed by gfh.py. -/
import Derived.Test.YtahbcnclhohnaaaGreatFsP
import Derived.Test.YtahbcnclhohnaaaGreatFsK
import Derived.Test.YtahbcnclhohnaaaGreatZe
import Derived.Test.YtahbcnclhohnaaaGreatZf
import Derived.Test.YtahbcnclhohnaaaGreatZk
import Derived.Deep.RegionWith
import Derived.Deep.RegionLaw
import Derived.WideKeyPair
import Derived.DeepKeys4
namespace Go.Proofs.YtahbcnclhohnaaaGreat
open Go.RowKit Go.Maps Go.ChangeShapes Go.WideShapes

theorem Tryz.laidOutH : laidOutB Tryz.prog = true := by kernel_rfl
theorem Tryz.rowH : (86 : TypeId) < Tryz.prog.types.size := of_decide_eq_true (by kernel_rfl)
theorem Tryz.wideH : (match Tryz.prog.underlying 86 with | some (.array _ _) | some (.struct _) => true | _ => false) = true := by rw [Tryz.underlying86]
set_option maxRecDepth 100000 in
theorem Tryz.lawH : WideMaps.KeyLaw Tryz.prog 86 := deep_law_laid Tryz.laidOutH (m := 2) (by omega) Tryz.rowH (by kernel_rfl) Tryz.wideH
theorem Tryz.arrH : WideMaps.ArrKey Tryz.prog 86 3 2 := ⟨Tryz.underlying86, by kernel_rfl, by kernel_rfl, by kernel_rfl⟩
theorem Tryz.zeroH (w : World) : (zeroValue 3).run Tryz.prog w = .ok (.int .i64 0) w := by kernel_rfl
noncomputable instance litDecH : DecidableEq Lit := fun _ _ => Classical.propDecidable _
/-- What a key reads as. -/
def klH (a k : Int) : Lit := .string (keyBytes [.int .i64 a, .int .i64 k])
theorem keyH {a k : Int} (ha : (Lit.int .i64 a).wf = true) (hk : (Lit.int .i64 k).wf = true) : keyOf Tryz.prog 86 (.agg #[.int .i64 a, .int .i64 k]) = some (klH a k) := WideMaps.keyOf_pair Tryz.arrH Tryz.underlying3 ⟨_, rfl⟩ ha hk
def recH (vs : List (ByteArray × Int)) (us : List Int) (r : RecD) : Lit := klH r.area (keyV vs r.vals us)
noncomputable def cntH (vs : List (ByteArray × Int)) (us : List Int) (kl : Lit) (rs : List RecD) (j : Nat) : Int := ((rs.take j).countP (fun r => decide (recH vs us r = kl)) : Nat)
theorem cntH_succ {vs : List (ByteArray × Int)} {us : List Int} {kl : Lit} {rs : List RecD} {j : Nat} (hj : j < rs.length) : cntH vs us kl rs (j + 1) = cntH vs us kl rs j + if recH vs us (rX rs j) = kl then 1 else 0 := by
  unfold cntH
  rw [List.take_add_one, List.getElem?_eq_getElem hj, Option.toList_some, List.countP_append, List.countP_singleton]
  have e : rs[j] = rX rs j := by unfold rX; rw [List.getElem?_eq_getElem hj]; rfl
  rw [e]
  by_cases h : recH vs us (rX rs j) = kl <;> simp [h]
theorem stepH {D : DataW Nat} {k0 : Lit} {e s : Int} {f g : Lit → Int} (hD : IsMap D) (hk : WideAt.IsKeyLit k0) (h : ∀ kl, D.atKey kl (.lit (.int .i64 0)) = .lit (.int .i64 (f kl))) (he : e = f k0 + s) (hg : ∀ kl, g kl = f kl + if k0 = kl then s else 0) : ∀ kl, (D.put k0 (.lit (.int .i64 e))).atKey kl (.lit (.int .i64 0)) = .lit (.int .i64 (g kl)) := by
  intro kl
  by_cases c : kl = k0
  · subst c
    rw [atKey_put_same hD hk, hg, if_pos rfl, he]
  · rw [atKey_put_other c, h, hg, if_neg (fun e => c e.symm), Int.add_zero]
theorem owns_below {H : Type} {w w' : World} {k : TypeId} {R : Value → Option (DataW H × List MemPlace)} {b n : Nat} {D : DataW H} (h : w.ownsMap Tryz.prog k R b n D) (hb : Below w.heap.size w w') : w'.ownsMap Tryz.prog k R b n D := by
  have hlt := h.lt
  obtain ⟨es, clock, h1, h2⟩ := h
  exact ⟨es, clock, (hb.block b hlt).trans h1, h2⟩
theorem owns_map {H : Type} {w : World} {k : TypeId} {R : Value → Option (DataW H × List MemPlace)} {b n : Nat} {D : DataW H} (h : w.ownsMap Tryz.prog k R b n D) : IsMap D := by
  obtain ⟨es, clock, _, _, _, e⟩ := h
  exact ⟨_, e⟩
theorem cntH_bd (vs : List (ByteArray × Int)) (us : List Int) (kl : Lit) (rs : List RecD) (j : Nat) : 0 ≤ cntH vs us kl rs j ∧ cntH vs us kl rs j ≤ rs.length := by
  unfold cntH
  have h1 := List.countP_le_length (p := fun r => decide (recH vs us r = kl)) (l := rs.take j)
  rw [List.length_take] at h1
  omega

set_option maxRecDepth 100000 in
set_option maxHeartbeats 4000000 in
theorem implKeepsCounts_any (A B C U : Option Addr) (n c m d d2 l k' : Nat) (vs : List (ByteArray × Int)) (rs qs : List RecD) (us : List Int) (w : World) (hx : SchR w A n c vs) (hy : DatR w B m rs) (hq : DatR w C m qs) (hu : IntR w U l us) (hd : keyedB vs rs us = true) (hd2 : keyedB vs qs us = true) (hc : ∀ kl, cntH vs us kl rs m = cntH vs us kl qs m) :
    Calls Tryz.prog 11 #[.slice A n c, .slice B m d, .slice C m d2, .slice U l k'] w fun e w' => e = .returned (.tuple #[.bool true, .bool true]) ∧ Below w.heap.size w w' := by
  have hml : rs.length = m := hy.r.1
  have hml2 : qs.length = m := hq.r.1
  have hk := keyed_all hx.len hd
  have hk2 := keyed_all hx.len hd2
  have hm40 : m ≤ 40 := by have := hk.forty; rw [hml] at this; exact this
  have hdq : dataB vs qs = true := by have h := hd2; unfold keyedB at h; simp only [Bool.and_eq_true] at h; exact h.2.1
  have hdr : dataB vs rs = true := by have h := hd; unfold keyedB at h; simp only [Bool.and_eq_true] at h; exact h.2.1
  have HA : Hid (∀ j, j < m → 0 ≤ rA rs j ∧ rA rs j ≤ 29) := Lib.hid (fun j hj => by unfold dataB at hdr; simp only [Bool.and_eq_true] at hdr; have h := allTo_of hdr.2 j (by omega); unfold recOk recB at h; simp only [Bool.and_eq_true] at h; exact inR_of h.1)
  have HA2 : Hid (∀ j, j < m → 0 ≤ rA qs j ∧ rA qs j ≤ 29) := Lib.hid (fun j hj => by unfold dataB at hdq; simp only [Bool.and_eq_true] at hdq; have h := allTo_of hdq.2 j (by omega); unfold recOk recB at h; simp only [Bool.and_eq_true] at h; exact inR_of h.1)
  have HX := Lib.hid hx
  have HY := Lib.hid hy
  have HQ := Lib.hid hq
  have HU := Lib.hid hu
  have HK := Lib.hid hk
  have HK2 := Lib.hid hk2
  have HD := Lib.hid hd
  have HD2 := Lib.hid hdq
  have HC := Lib.hid hc
  have HML := Lib.hid hml
  have HML2 := Lib.hid hml2
  have hmm := @run_makeMap Tryz.prog
  clear hml hml2 hk hk2 hdq hdr hd hd2 hc
  go_enter Tryz.func11, Tryz.ntmps11
  go_wp2_with fail
  refine (areKeyed_any _ _ _ n _ m _ l _ vs rs us _ hx hy hu).mono ?_
  rintro e w1 ⟨rfl, b1⟩
  rw [HD.out]
  go_wp2_with fail
  refine (isData_any A C n c m d2 vs qs _ (hx.below b1) (hq.below b1)).mono ?_
  rintro e w2 ⟨rfl, b2'⟩
  rw [HD2.out]
  have b2 := b1.trans (b2'.mono b1.size)
  have M0 : Hid ((w2.alloc (.map #[] 0)).ownsMap Tryz.prog 86 (plainElem (H := Nat) Tryz.prog 3) w2.heap.size 0 (.map [])) := Lib.hid (World.ownsMap_made w2 _ _ _)
  have B2 := Lib.hid (b2.trans ((below_new w2 (.map #[] 0)).mono b2.size))
  have hs2 := b2.size
  have I0 : Hid (∀ kl, (DataW.map [] : DataW Nat).atKey kl (.lit (.int .i64 0)) = .lit (.int .i64 (cntH vs us kl rs 0 - cntH vs us kl qs 0))) := Lib.hid (fun kl => rfl)
  clear b1 b2 b2' hx hy hq hu HD HD2
  go_wp2
  clear hmm
  obtain ⟨gb, hgb⟩ : ∃ gb, Hid (w2.heap.size = gb) := ⟨_, Lib.hid rfl⟩
  rw [hgb.out] at M0 ⊢
  have hgw : w.heap.size ≤ gb := by rw [← hgb.out]; exact hs2
  generalize w2.alloc (.map #[] 0) = w3 at *
  clear hs2 hgb
  go_loopw [31] (fun i wr => ∃ (j : Nat) (D : DataW Nat), j ≤ m ∧ i = .int .i64 j ∧ Hid (wr.ownsMap Tryz.prog 86 (plainElem (H := Nat) Tryz.prog 3) gb j D) ∧ Hid (∀ kl, D.atKey kl (.lit (.int .i64 0)) = .lit (.int .i64 (cntH vs us kl rs j - cntH vs us kl qs 0))) ∧ Hid (Below w.heap.size w wr)) (fun i _ => m - (intOf i).toNat)
  case atStart => exact ⟨0, .map [], Nat.zero_le _, rfl, M0, I0, B2⟩
  case round =>
    clear M0 I0 B2
    obtain ⟨j, D, hj, rfl, HM, HI, HB⟩ := hrel
    by_cases hlt : j < m
    case pos =>
      have hy9 := HY.out.below HB.out
      have hl1 := hy9.s j hlt
      obtain ⟨ad, rfl, c0, c1, V, lv, cv, c2, hv1⟩ := hy9.r.at_ hlt
      rw [hv1.1] at hl1
      have HI1 := Lib.hid (IntR.mk hv1 hl1)
      have hka := HK.out.at_ (show j < rs.length by rw [HML.out]; exact hlt)
      have hkb := hka.keyV_bd
      have hab := HA.out j hlt
      have HRC : Hid (recH vs us (rX rs j) = klH (rA rs j) (keyV vs (rV rs j) us)) := Lib.hid rfl
      have HCS := Lib.hid (fun kl => cntH_succ (vs := vs) (us := us) (kl := kl) (rs := rs) (j := j) (by rw [HML.out]; exact hlt))
      have HCB := Lib.hid (fun kl => cntH_bd vs us kl rs)
      have HCB2 := Lib.hid (fun kl => cntH_bd vs us kl qs)
      generalize rA rs j = x at *
      generalize rH rs j = y at *
      generalize rV rs j = xs at *
      obtain ⟨kv, hkv⟩ : ∃ kv, Hid (keyV vs xs us = kv) := ⟨_, Lib.hid rfl⟩
      rw [hkv.out] at hkb HRC
      have bk := below_new wr (.cells #[.int .i64 x, .int .i64 y, .slice V lv cv] 79)
      have XN := Lib.hid (box_new wr #[.int .i64 x, .int .i64 y, .slice V lv cv] 79)
      have n0 := box_cell XN.out 0 _ rfl; have n1 := box_cell XN.out 1 _ rfl; have n2 := box_cell XN.out 2 _ rfl
      have ln := lt_of_block XN.out
      have HI1b := Lib.hid (HI1.out.below bk)
      have HMb := Lib.hid (HM.out.alloc (.cells #[.int .i64 x, .int .i64 y, .slice V lv cv] 79))
      have HBb := Lib.hid (HB.out.trans (bk.mono HB.out.size))
      have HXb := Lib.hid (HX.out.below HBb.out)
      have HUb := Lib.hid (HU.out.below HBb.out)
      have hkey := keyH (a := x) (k := kv) (WalkArith.wf_i64 (by omega)) (WalkArith.wf_i64 (by omega))
      have HKEY := Lib.hid hkey
      clear hv1 hy9 bk HI1 HM HB hkey
      go_wp2_with fail
      clear c0 c1 c2 ln
      obtain ⟨gn, hgn⟩ : ∃ gn, Hid (wr.heap.size = gn) := ⟨_, Lib.hid rfl⟩
      rw [hgn.out] at XN n0 n1 n2 ⊢
      generalize wr.alloc (.cells #[.int .i64 x, .int .i64 y, .slice V lv cv] 79) = w4 at *
      go_region_law ((go_simp; go_at_call 42; refine (keyOf_any A V U n c lv cv l k' x y vs xs us _ (HXb.out.below (by first | exact (Below.refl _ _).drew | exact below_drewN (Below.refl _ _) _)) (HI1b.out.below (by first | exact (Below.refl _ _).drew | exact below_drewN (Below.refl _ _) _)) (HUb.out.below (by first | exact (Below.refl _ _).drew | exact below_drewN (Below.refl _ _) _)) hka).mono ?_; rintro e w5 ⟨rfl, b5'⟩; rw [hkv.out]; have b5 : Below w4.heap.size w4 w5 := Below.trans (by first | exact (Below.refl _ _).drew | exact below_drewN (Below.refl _ _) _) b5'; have e0 := (b5.cell (block_lt_of_cell n0)).trans n0; have e1 := (b5.cell (block_lt_of_cell n1)).trans n1; have e2 := (b5.cell (block_lt_of_cell n2)).trans n2; have M5 := Lib.hid (owns_below HMb.out b5); obtain ⟨cc, v0, st, w6, hlk, hat, hent, hlk6, hst⟩ := entry_own M5.out Tryz.lawH Tryz.underlying84 Tryz.underlying3 Tryz.zeroH (by unfold maxLen; omega) HKEY.out; have hcc := HI.out (klH x kv); rw [hat] at hcc; have HCV := Lib.hid (show cc = cntH vs us (klH x kv) rs j - cntH vs us (klH x kv) qs 0 by simpa using hcc); have hwr : IntKind.i64.wrap (cc + 1) = cc + 1 := IntWalk.i64_in _ (by have hcv := HCV.out; have hq0 := HCB.out (klH x kv) j; have hq1 := HCB2.out (klH x kv) 0; rw [HML.out] at hq0; rw [HML2.out] at hq1; omega); obtain ⟨w7, hst7, M7', g7⟩ := hst (cc + 1) (WalkArith.wf_i64 (by have hcv := HCV.out; have hq0 := HCB.out (klH x kv) j; have hq1 := HCB2.out (klH x kv) 0; rw [HML.out] at hq0; rw [HML2.out] at hq1; omega)); have hst8 : (Instr.entryStore 84 (.map (some gb)) (.int .i64 (st : Int)) (.int .i64 (cc + 1))).run Tryz.prog w6 = .ok () w7 := hst7; have M7 := Lib.hid M7'; have B5 := HBb.out.trans (b5.mono HBb.out.size); have B7 := Lib.hid (B5.grown g7 B5.size (fun q hq => by injection hq with hq; omega)); have I7 : Hid (∀ kl, (DataW.put D (klH x kv) (.lit (.int .i64 (cc + 1)))).atKey kl (.lit (.int .i64 0)) = .lit (.int .i64 (cntH vs us kl rs (j + 1) - cntH vs us kl qs 0))) := Lib.hid (stepH (s := 1) (owns_map M5.out) ((Keyed.of_law Tryz.lawH).key HKEY.out) HI.out (by have hcv := HCV.out; omega) (fun kl => by have h9 := HCS.out kl; rw [HRC.out] at h9; by_cases c9 : klH x kv = kl <;> simp only [c9, if_true, if_false] at h9 ⊢ <;> omega)); clear hcc hst hst7 B5 M7'; dsimp only))
      all_goals (clear hlk hat hent hlk6 hst8 hwr HCV e0 e1 e2 n0 n1 n2 M5 b5 b5' HI1b HMb HBb HXb HUb XN HI)
      all_goals go_wp2
      all_goals go_roundw
      all_goals first | exact ⟨j + 1, _, by omega, by go_num, M7, I7, B7⟩ | (simp [intOf]; omega)
    case neg =>
      obtain rfl : j = m := by omega
      have HI0 : Hid (∀ kl, D.atKey kl (.lit (.int .i64 0)) = .lit (.int .i64 (cntH vs us kl rs j - cntH vs us kl qs 0))) := HI
      clear HI
      go_wp2
      go_loopw [50] (fun i wr => ∃ (i0 : Nat) (D : DataW Nat), i0 ≤ j ∧ i = .int .i64 i0 ∧ Hid (wr.ownsMap Tryz.prog 86 (plainElem (H := Nat) Tryz.prog 3) gb (j + i0) D) ∧ Hid (∀ kl, D.atKey kl (.lit (.int .i64 0)) = .lit (.int .i64 (cntH vs us kl rs j - cntH vs us kl qs i0))) ∧ Hid (Below w.heap.size w wr)) (fun i _ => j - (intOf i).toNat)
      case atStart => exact ⟨0, D, Nat.zero_le _, rfl, HM, HI0, HB⟩
      case round =>
        clear HM HI0 HB
        obtain ⟨m', m, hmm'⟩ : ∃ m' m : Nat, m = j := ⟨0, j, rfl⟩
        subst hmm'
        obtain ⟨j, D, hj, rfl, HM, HI, HB⟩ := hrel
        by_cases hlt : j < m
        case pos =>
          have hy9 := HQ.out.below HB.out
          have hl1 := hy9.s j hlt
          obtain ⟨ad, rfl, c0, c1, V, lv, cv, c2, hv1⟩ := hy9.r.at_ hlt
          rw [hv1.1] at hl1
          have HI1 := Lib.hid (IntR.mk hv1 hl1)
          have hka := HK2.out.at_ (show j < qs.length by rw [HML2.out]; exact hlt)
          have hkb := hka.keyV_bd
          have hab := HA2.out j hlt
          have HRC : Hid (recH vs us (rX qs j) = klH (rA qs j) (keyV vs (rV qs j) us)) := Lib.hid rfl
          have HCS := Lib.hid (fun kl => cntH_succ (vs := vs) (us := us) (kl := kl) (rs := qs) (j := j) (by rw [HML2.out]; exact hlt))
          have HCB := Lib.hid (fun kl => cntH_bd vs us kl rs)
          have HCB2 := Lib.hid (fun kl => cntH_bd vs us kl qs)
          generalize rA qs j = x at *
          generalize rH qs j = y at *
          generalize rV qs j = xs at *
          obtain ⟨kv, hkv⟩ : ∃ kv, Hid (keyV vs xs us = kv) := ⟨_, Lib.hid rfl⟩
          rw [hkv.out] at hkb HRC
          have bk := below_new wr (.cells #[.int .i64 x, .int .i64 y, .slice V lv cv] 79)
          have XN := Lib.hid (box_new wr #[.int .i64 x, .int .i64 y, .slice V lv cv] 79)
          have n0 := box_cell XN.out 0 _ rfl; have n1 := box_cell XN.out 1 _ rfl; have n2 := box_cell XN.out 2 _ rfl
          have ln := lt_of_block XN.out
          have HI1b := Lib.hid (HI1.out.below bk)
          have HMb := Lib.hid (HM.out.alloc (.cells #[.int .i64 x, .int .i64 y, .slice V lv cv] 79))
          have HBb := Lib.hid (HB.out.trans (bk.mono HB.out.size))
          have HXb := Lib.hid (HX.out.below HBb.out)
          have HUb := Lib.hid (HU.out.below HBb.out)
          have hkey := keyH (a := x) (k := kv) (WalkArith.wf_i64 (by omega)) (WalkArith.wf_i64 (by omega))
          have HKEY := Lib.hid hkey
          clear hv1 hy9 bk HI1 HM HB hkey
          go_wp2_with fail
          clear c0 c1 c2 ln
          obtain ⟨gn, hgn⟩ : ∃ gn, Hid (wr.heap.size = gn) := ⟨_, Lib.hid rfl⟩
          rw [hgn.out] at XN n0 n1 n2 ⊢
          generalize wr.alloc (.cells #[.int .i64 x, .int .i64 y, .slice V lv cv] 79) = w4 at *
          go_region_law ((go_simp; go_at_call 42; refine (keyOf_any A V U n c lv cv l k' x y vs xs us _ (HXb.out.below (by first | exact (Below.refl _ _).drew | exact below_drewN (Below.refl _ _) _)) (HI1b.out.below (by first | exact (Below.refl _ _).drew | exact below_drewN (Below.refl _ _) _)) (HUb.out.below (by first | exact (Below.refl _ _).drew | exact below_drewN (Below.refl _ _) _)) hka).mono ?_; rintro e w5 ⟨rfl, b5'⟩; rw [hkv.out]; have b5 : Below w4.heap.size w4 w5 := Below.trans (by first | exact (Below.refl _ _).drew | exact below_drewN (Below.refl _ _) _) b5'; have e0 := (b5.cell (block_lt_of_cell n0)).trans n0; have e1 := (b5.cell (block_lt_of_cell n1)).trans n1; have e2 := (b5.cell (block_lt_of_cell n2)).trans n2; have M5 := Lib.hid (owns_below HMb.out b5); obtain ⟨cc, v0, st, w6, hlk, hat, hent, hlk6, hst⟩ := entry_own M5.out Tryz.lawH Tryz.underlying84 Tryz.underlying3 Tryz.zeroH (by unfold maxLen; omega) HKEY.out; have hcc := HI.out (klH x kv); rw [hat] at hcc; have HCV := Lib.hid (show cc = cntH vs us (klH x kv) rs m - cntH vs us (klH x kv) qs j by simpa using hcc); have hwr : IntKind.i64.wrap (cc - 1) = cc - 1 := IntWalk.i64_in _ (by have hcv := HCV.out; have hq0 := HCB.out (klH x kv) m; have hq1 := HCB2.out (klH x kv) j; rw [HML.out] at hq0; rw [HML2.out] at hq1; omega); obtain ⟨w7, hst7, M7', g7⟩ := hst (cc - 1) (WalkArith.wf_i64 (by have hcv := HCV.out; have hq0 := HCB.out (klH x kv) m; have hq1 := HCB2.out (klH x kv) j; rw [HML.out] at hq0; rw [HML2.out] at hq1; omega)); have hst8 : (Instr.entryStore 84 (.map (some gb)) (.int .i64 (st : Int)) (.int .i64 (cc - 1))).run Tryz.prog w6 = .ok () w7 := hst7; have M7 := Lib.hid M7'; have B5 := HBb.out.trans (b5.mono HBb.out.size); have B7 := Lib.hid (B5.grown g7 B5.size (fun q hq => by injection hq with hq; omega)); have I7 : Hid (∀ kl, (DataW.put D (klH x kv) (.lit (.int .i64 (cc - 1)))).atKey kl (.lit (.int .i64 0)) = .lit (.int .i64 (cntH vs us kl rs m - cntH vs us kl qs (j + 1)))) := Lib.hid (stepH (s := -1) (owns_map M5.out) ((Keyed.of_law Tryz.lawH).key HKEY.out) HI.out (by have hcv := HCV.out; omega) (fun kl => by have h9 := HCS.out kl; rw [HRC.out] at h9; by_cases c9 : klH x kv = kl <;> simp only [c9, if_true, if_false] at h9 ⊢ <;> omega)); clear hcc hst hst7 B5 M7'; dsimp only))
          all_goals (clear hlk hat hent hlk6 hst8 hwr HCV e0 e1 e2 n0 n1 n2 M5 b5 b5' HI1b HMb HBb HXb HUb XN HI)
          all_goals go_wp2
          all_goals go_roundw
          all_goals first | exact ⟨j + 1, _, by omega, by go_num, M7, I7, B7⟩ | (simp [intOf]; omega)
        case neg =>
          obtain rfl : j = m := by omega
          have HZ : Hid (∀ kl, D.atKey kl (.lit (.int .i64 0)) = .lit (.int .i64 0)) := Lib.hid (fun kl => by rw [HI.out kl, HC.out kl, Int.sub_self])
          have hzw := HB.out.size
          clear HI
          go_wp2_with (first | (at_range; refine wpList_range_own _ rfl _ 84 rfl 86 3 (Keyed.of_law Tryz.lawH) Tryz.underlying84 _ gb _ _ rfl HM.out ?_; intro w9 hrg9 hg9 hs9) | go_in)
          have B9 := Lib.hid (HB.out.grown hg9 hzw (fun q hq => by cases hq))
          have R9 := Lib.hid hrg9
          clear hrg9 hg9 hs9 HM HB
          obtain ⟨gi, hgi⟩ : ∃ gi, Hid (wr.heap.size = gi) := ⟨_, Lib.hid rfl⟩
          rw [hgi.out] at R9 hzw ⊢
          try go_frame
          go_loopw [16] (fun _ wq => ∃ (left : Lit → Bool) (cnt : Nat), Hid (wq.ranges Tryz.prog 86 (plainElem (H := Nat) Tryz.prog 3) gb gi (j + j) D left cnt) ∧ Hid (Below w.heap.size w wq)) (fun _ wq => wq.rangeLeft gb gi)
          case atStart => exact ⟨_, _, R9, B9⟩
          case round =>
            clear R9 B9
            obtain ⟨left, cnt, hrg, HB⟩ := hrel
            go_wp2_with (first | (at_next; refine wpList_next_ranges _ rfl _ rfl 86 (Keyed.of_law Tryz.lawH) (plainElem (H := Nat) Tryz.prog 3) (fun v : Value => v) (Value.int .i64) (fun key kl _ => ⟨key, rfl⟩) (fun v y hv => by obtain ⟨c, rfl, _⟩ := plainElem_int_inv Tryz.underlying3 hv; exact ⟨c, rfl⟩) gb gi _ _ _ _ rfl hrg.out ?_ ?_) | go_in)
            · intro _ _
              clear hrg
              go_wp2
              go_ret2
              exact ⟨rfl, HB.out⟩
            · intro key c kl ya yb wn cntn hky hlx hv hat hrg1 hcl hg1 hs1 hen
              obtain ⟨c', ec, hy1, _⟩ := plainElem_int_inv Tryz.underlying3 hv
              cases ec
              have hz9 := HZ.out kl
              rw [hat, (Prod.mk.inj hy1).1] at hz9
              obtain rfl : c = 0 := by simpa using hz9
              have HB1 := Lib.hid (HB.out.grown hg1 HB.out.size (fun q hq => by injection hq with hq; omega))
              have RG1 := Lib.hid hrg1
              clear hat hy1 hz9 hv hky hlx hg1 hs1 HB
              go_wp2
              go_roundw
              case rel => exact ⟨_, _, RG1, HB1⟩
              case measure => rw [RG1.out.left_eq, hrg.out.left_eq]; exact hcl
end Go.Proofs.YtahbcnclhohnaaaGreat
