/- Several small texts in one: CelA, CelB. -/
import Derived.Test.YtfanpbfmnckmnaaGreatYf
namespace Go.Proofs.YtfanpbfmnckmnaaGreat

section
open Go.RowKit

theorem isNaN_c (x : Int) (w : World) : Calls Tryz.prog 221 #[.int .i64 x] w fun e w' => e = .returned (.bool false) ∧ w = w' := by
  go_enter Tryz.func221, Tryz.ntmps221
  go_wp2
  go_ret
  exact ⟨rfl, rfl⟩
theorem cmpLess_any (x y : Int) (w : World) : Calls Tryz.prog 217 #[.int .i64 x, .int .i64 y] w fun e w' => e = .returned (.bool (decide (x < y))) ∧ w = w' := by
  go_enter Tryz.func217, Tryz.ntmps217
  go_wp2_with fail
  refine (isNaN_c x w).mono ?_
  rintro e w1 ⟨rfl, rfl⟩
  go_wp2
  go_ret
  exact ⟨rfl, rfl⟩
/-- In a rising list, what lies below a member lies ahead of it. -/
theorem ris_lt {xs : List Int} {p h : Nat} {a : Int} (hp : xs.Pairwise (· < ·)) (hpl : p < xs.length) (hhl : h < xs.length) (e : xs[p]?.getD 0 = a) : xs[h]?.getD 0 < a ↔ h < p := by
  rw [List.getElem?_eq_getElem hpl, Option.getD_some] at e
  rw [List.getElem?_eq_getElem hhl, Option.getD_some]
  constructor
  · intro h1
    rcases Nat.lt_trichotomy h p with h2 | h2 | h2
    · exact h2
    · subst h2; omega
    · have := List.pairwise_iff_getElem.1 hp _ _ hpl hhl h2; omega
  · intro h1
    have := List.pairwise_iff_getElem.1 hp _ _ hhl hpl h1
    omega

set_option maxRecDepth 100000 in
set_option maxHeartbeats 2000000 in
theorem binSearch_any (A : Option Addr) (n c p : Nat) (a : Int) (xs : List Int) (w : World) (hx : IntR w A n xs) (hn30 : n ≤ 30) (hr : xs.Pairwise (· < ·)) (hp : p < n) (he : xs[p]?.getD 0 = a) :
    Calls Tryz.prog 212 #[.slice A n c, .int .i64 a] w fun e w' => e = .returned (.tuple #[.int .i64 p, .bool true]) ∧ w = w' := by
  have hl := Lib.hid hx.len
  have HL := Lib.hid (fun h (hh : h < n) => ris_lt (h := h) hr (by rw [hl.out]; exact hp) (by rw [hl.out]; exact hh) he)
  have HE := Lib.hid he
  clear hr he
  go_enter Tryz.func212, Tryz.ntmps212
  go_wp2
  go_loop [7, 8] (fun i j => ∃ s t : Nat, i = .int .i64 s ∧ j = .int .i64 t ∧ s ≤ p ∧ p ≤ t ∧ t ≤ n) (fun i j => (intOf j).toNat - (intOf i).toNat)
  case atStart => exact ⟨0, n, rfl, rfl, Nat.zero_le _, by omega, Nat.le_refl _⟩
  case round =>
    obtain ⟨s, t, rfl, rfl, hs, ht, htn⟩ := hrel
    by_cases hlt : s < t
    · obtain ⟨h, hh⟩ : ∃ h : Nat, h = (s + t) / 2 := ⟨_, rfl⟩
      have h1 : s ≤ h := by omega
      have h2 : h < t := by omega
      obtain ⟨ad, rfl, hc⟩ := hx.i.at_ (show h < n by omega)
      have HQ := Lib.hid (HL.out h (by omega))
      have hsh : ((s : Int) + t) / 2 = (h : Int) := by omega
      clear hx hh
      go_wp2_with fail
      refine (cmpLess_any _ a _).mono ?_
      rintro e w1 ⟨rfl, rfl⟩
      by_cases hq : xs[h]?.getD 0 < a
      · have H := HQ.out.1 hq
        go_wp2
        go_round
        case rel => exact ⟨h + 1, t, by go_num, rfl, by omega, ht, htn⟩
        case measure => simp [intOf]; omega
      · have H : ¬ h < p := fun h9 => hq (HQ.out.2 h9)
        go_wp2
        go_round
        case rel => exact ⟨s, h, rfl, by go_num, hs, by omega, by omega⟩
        case measure => simp [intOf]; omega
    · obtain rfl : s = p := by omega
      obtain ⟨ad, rfl, hc⟩ := hx.i.at_ hp
      rw [HE.out] at hc
      clear hx
      go_wp2
      exact bodyPost_ret (v := .tuple #[.int .i64 s, .bool true]) (by simp [results, Tryz.results212, go_sem]) rfl ⟨rfl, rfl⟩

set_option maxRecDepth 100000 in
set_option maxHeartbeats 2000000 in
theorem l1Find_any (A : Option Addr) (n c p : Nat) (a : Int) (xs : List Int) (w : World) (hx : IntR w A n xs) (hp : p < n) (he : xs[p]?.getD 0 = a) (hf : ∀ j, j < p → xs[j]?.getD 0 ≠ a) :
    Calls Tryz.prog 203 #[.slice A n c, .int .i64 a] w fun e w' => e = .returned (.int .i64 p) ∧ w = w' := by
  have hn := hx.bd
  have HE := Lib.hid he
  have HF := Lib.hid hf
  clear he hf
  go_enter Tryz.func203, Tryz.ntmps203
  go_wp2
  go_loop [9] (fun i => ∃ k : Nat, k ≤ p ∧ i = .int .i64 k) (fun i => n - (intOf i).toNat)
  case atStart => exact ⟨0, Nat.zero_le _, rfl⟩
  case round =>
    obtain ⟨k, hk, rfl⟩ := hrel
    obtain ⟨ad, rfl, hc⟩ := hx.i.at_ (show k < n by omega)
    clear hx
    by_cases hlt : k < p
    · have hq : (xs[k]?.getD 0 == a) = false := by rw [beq_eq_false_iff_ne]; exact HF.out k hlt
      generalize xs[k]?.getD 0 = x at *
      go_wp2
      go_round
      case rel => exact ⟨k + 1, by omega, by go_num⟩
      case measure => simp [intOf]; omega
    · obtain rfl : k = p := by omega
      rw [HE.out] at hc
      go_wp2
      go_ret
      exact ⟨rfl, rfl⟩
theorem meetB_no {wh xs : List Int} {i : Nat} (hi : i < wh.length) (h : meetAt wh xs i = false) : false = meetB wh xs := by unfold meetB; rw [allTo_no hi h]

set_option maxRecDepth 100000 in
set_option maxHeartbeats 2000000 in
theorem meetsWhere_any (V U Vr : Option Addr) (m d k e mr cr : Nat) (t : TabD) (x y : Int) (xs : List Int) (w : World) (hT : TabR w V m U k t) (hv : IntR w Vr mr xs) (hw : ∀ i, i < k → 0 ≤ t.wh[i]?.getD 0 ∧ t.wh[i]?.getD 0 ≤ 255) (hxs : ∀ i, i < k → 0 ≤ xs[i]?.getD 0 ∧ xs[i]?.getD 0 ≤ 7) (hkm : k ≤ mr) :
    Calls Tryz.prog 192 #[.agg #[.int .i64 t.lv, .slice V m d, .slice U k e, .int .i64 t.sum], .agg #[.int .i64 x, .int .i64 y, .slice Vr mr cr]] w fun e w' => e = .returned (.bool (meetB t.wh xs)) ∧ Below w.heap.size w w' := by
  have hl := Lib.hid hT.u.len
  have hk0 := hT.u.bd
  have HW := Lib.hid hw
  have HX := Lib.hid hxs
  have HU := Lib.hid hT.u
  clear hw hxs hT
  obtain ⟨b0, x0, x1⟩ := box_two w #[.int .i64 t.lv, .slice V m d, .slice U k e, .int .i64 t.sum] #[.int .i64 x, .int .i64 y, .slice Vr mr cr] 56 135
  have l0 := lt_of_block x0
  have l1 := lt_of_block x1
  have c2 := bxc x0 2 _ rfl
  have d2 := bxc x1 2 _ rfl
  have HB := Lib.hid b0
  replace HU := Lib.hid (HU.out.below b0)
  replace hv := Lib.hid (hv.below b0)
  clear x0 x1 b0
  go_enter Tryz.func192, Tryz.ntmps192
  go_wp2
  clear c2 l0
  generalize (w.alloc (.cells #[.int .i64 t.lv, .slice V m d, .slice U k e, .int .i64 t.sum] 56)).alloc (.cells #[.int .i64 x, .int .i64 y, .slice Vr mr cr] 135) = w0 at *
  go_loop [10] (fun i => ∃ j : Nat, j ≤ k ∧ i = .int .i64 j ∧ Hid (allTo (meetAt t.wh xs) j = true)) (fun i => k - (intOf i).toNat)
  case atStart => exact ⟨0, Nat.zero_le _, rfl, Lib.hid (allTo_zero _)⟩
  case round =>
    obtain ⟨j, hj, rfl, hf⟩ := hrel
    by_cases hlt : j < k
    · obtain ⟨ad, rfl, hc⟩ := HU.out.i.at_ hlt
      obtain ⟨ad', rfl, hc'⟩ := hv.out.i.at_ (show j < mr by omega)
      obtain ⟨s0, s1⟩ := HW.out j hlt
      obtain ⟨v0, v1⟩ := HX.out j hlt
      have HA := Lib.hid (fun h => allTo_succ (p := meetAt t.wh xs) hf.out h)
      have HN := Lib.hid (fun h => meetB_no (wh := t.wh) (xs := xs) (i := j) (by rw [hl.out]; exact hlt) h)
      have HM := Lib.hid (show meetAt t.wh xs j = ((t.wh[j]?.getD 0 == 0) || memP (t.wh[j]?.getD 0) (xs[j]?.getD 0).toNat) from rfl)
      generalize t.wh[j]?.getD 0 = s at *
      generalize xs[j]?.getD 0 = v at *
      obtain ⟨q, rfl⟩ : ∃ q : Nat, v = (q : Int) := ⟨v.toNat, by omega⟩
      have hq7 : q ≤ 7 := by omega
      rw [Int.toNat_natCast] at HM
      have HP := Lib.hid (show memP s q = decide (s / 2 ^ q % 2 = 1) from rfl)
      have hd := div_pow s0 q
      have HAN := Lib.hid (and_1 (s / 2 ^ q) hd.1 (by omega))
      clear v0 v1 HU hv
      by_cases hz : s = 0
      · subst hz
        have R := Lib.hid (HA.out (by rw [HM.out]; rfl))
        clear HA HN HM HP HAN hd
        go_wp2
        go_round
        case rel => exact ⟨j + 1, by omega, by go_num, R⟩
        case measure => simp [intOf]; omega
      · have hz' : (s != 0) = true := by simp [hz]
        have hz2 : (s == 0) = false := by simp [hz]
        obtain ⟨u, hu⟩ : ∃ u, s / 2 ^ q = u := ⟨_, rfl⟩
        rw [hu] at hd HP HAN
        clear hz
        by_cases hb : u % 2 = 1
        · have R := Lib.hid (HA.out (by rw [HM.out, HP.out, decide_eq_true hb]; simp))
          have hA := HAN.out
          rw [hb] at hA
          clear hb HA HN HM HP HAN hz2
          go_wp2
          go_round
          case rel => exact ⟨j + 1, by omega, by go_num, R⟩
          case measure => simp [intOf]; omega
        · have R := Lib.hid (HN.out (by rw [HM.out, HP.out, decide_eq_false hb, hz2]; rfl))
          have hb0 : u % 2 = 0 := by omega
          have hA := HAN.out
          rw [hb0] at hA
          clear hb hb0 HA HN HM HP HAN hz2
          go_wp2
          go_ret
          exact ⟨ret_bool R.out, HB.out⟩
    · obtain rfl : j = k := by omega
      have R := Lib.hid (show true = meetB t.wh xs by unfold meetB; rw [hl.out]; exact hf.out.symm)
      clear HU hv
      go_wp2
      go_ret
      exact ⟨ret_bool R.out, HB.out⟩

set_option maxRecDepth 100000 in
set_option maxHeartbeats 2000000 in
theorem uMeets_any (V U Vr : Option Addr) (m d k e mr cr : Nat) (t : TabD) (xs : List Int) (w : World) (hT : TabR w V m U k t) (hv : IntR w Vr mr xs) (hw : ∀ i, i < k → 0 ≤ t.wh[i]?.getD 0 ∧ t.wh[i]?.getD 0 ≤ 255) (hxs : ∀ i, i < k → 0 ≤ xs[i]?.getD 0 ∧ xs[i]?.getD 0 ≤ 7) (hkm : k ≤ mr) :
    Calls Tryz.prog 202 #[.agg #[.int .i64 t.lv, .slice V m d, .slice U k e, .int .i64 t.sum], .slice Vr mr cr] w fun e w' => e = .returned (.bool (meetB t.wh xs)) ∧ Below w.heap.size w w' := by
  have hl := Lib.hid hT.u.len
  have hk0 := hT.u.bd
  have HW := Lib.hid hw
  have HX := Lib.hid hxs
  have HU := Lib.hid hT.u
  clear hw hxs hT
  have b0 := below_new w (.cells #[.int .i64 t.lv, .slice V m d, .slice U k e, .int .i64 t.sum] 56)
  have x0 := box_new w #[.int .i64 t.lv, .slice V m d, .slice U k e, .int .i64 t.sum] 56
  have l0 := lt_of_block x0
  have c2 := bxc x0 2 _ rfl
  have HB := Lib.hid b0
  replace HU := Lib.hid (HU.out.below b0)
  replace hv := Lib.hid (hv.below b0)
  clear x0 b0
  go_enter Tryz.func202, Tryz.ntmps202
  go_wp2
  clear c2 l0
  generalize w.alloc (.cells #[.int .i64 t.lv, .slice V m d, .slice U k e, .int .i64 t.sum] 56) = w0 at *
  go_loop [10] (fun i => ∃ j : Nat, j ≤ k ∧ i = .int .i64 j ∧ Hid (allTo (meetAt t.wh xs) j = true)) (fun i => k - (intOf i).toNat)
  case atStart => exact ⟨0, Nat.zero_le _, rfl, Lib.hid (allTo_zero _)⟩
  case round =>
    obtain ⟨j, hj, rfl, hf⟩ := hrel
    by_cases hlt : j < k
    · obtain ⟨ad, rfl, hc⟩ := HU.out.i.at_ hlt
      obtain ⟨ad', rfl, hc'⟩ := hv.out.i.at_ (show j < mr by omega)
      obtain ⟨s0, s1⟩ := HW.out j hlt
      obtain ⟨v0, v1⟩ := HX.out j hlt
      have HA := Lib.hid (fun h => allTo_succ (p := meetAt t.wh xs) hf.out h)
      have HN := Lib.hid (fun h => meetB_no (wh := t.wh) (xs := xs) (i := j) (by rw [hl.out]; exact hlt) h)
      have HM := Lib.hid (show meetAt t.wh xs j = ((t.wh[j]?.getD 0 == 0) || memP (t.wh[j]?.getD 0) (xs[j]?.getD 0).toNat) from rfl)
      generalize t.wh[j]?.getD 0 = s at *
      generalize xs[j]?.getD 0 = v at *
      obtain ⟨q, rfl⟩ : ∃ q : Nat, v = (q : Int) := ⟨v.toNat, by omega⟩
      have hq7 : q ≤ 7 := by omega
      rw [Int.toNat_natCast] at HM
      have HP := Lib.hid (show memP s q = decide (s / 2 ^ q % 2 = 1) from rfl)
      have hd := div_pow s0 q
      have HAN := Lib.hid (and_1 (s / 2 ^ q) hd.1 (by omega))
      clear v0 v1 HU hv
      by_cases hz : s = 0
      · subst hz
        have R := Lib.hid (HA.out (by rw [HM.out]; rfl))
        clear HA HN HM HP HAN hd
        go_wp2
        go_round
        case rel => exact ⟨j + 1, by omega, by go_num, R⟩
        case measure => simp [intOf]; omega
      · have hz' : (s != 0) = true := by simp [hz]
        have hz2 : (s == 0) = false := by simp [hz]
        obtain ⟨u, hu⟩ : ∃ u, s / 2 ^ q = u := ⟨_, rfl⟩
        rw [hu] at hd HP HAN
        clear hz
        by_cases hb : u % 2 = 1
        · have R := Lib.hid (HA.out (by rw [HM.out, HP.out, decide_eq_true hb]; simp))
          have hA := HAN.out
          rw [hb] at hA
          clear hb HA HN HM HP HAN hz2
          go_wp2
          go_round
          case rel => exact ⟨j + 1, by omega, by go_num, R⟩
          case measure => simp [intOf]; omega
        · have R := Lib.hid (HN.out (by rw [HM.out, HP.out, decide_eq_false hb, hz2]; rfl))
          have hb0 : u % 2 = 0 := by omega
          have hA := HAN.out
          rw [hb0] at hA
          clear hb hb0 HA HN HM HP HAN hz2
          go_wp2
          go_ret
          exact ⟨ret_bool R.out, HB.out⟩
    · obtain rfl : j = k := by omega
      have R := Lib.hid (show true = meetB t.wh xs by unfold meetB; rw [hl.out]; exact hf.out.symm)
      clear HU hv
      go_wp2
      go_ret
      exact ⟨ret_bool R.out, HB.out⟩
end

section
open Go.RowKit

theorem cell_bd {p L : Nat} {P K : Int} (hp : p < L) (hL : L ≤ 30) (h0 : 1 ≤ P) (h1 : P ≤ 262144) (k0 : 0 ≤ K) (k1 : K < 262144) : (0 ≤ (p : Int) * P ∧ (p : Int) * P ≤ 7864320) ∧ 0 ≤ (p : Int) * P + K ∧ (p : Int) * P + K ≤ 8126464 := by
  have h := cnt_bd (a := p) (b := P) (by omega) h0 h1
  omega
theorem zfl_zero {m : Nat} {F : Nat → Int} : List.replicate m (0 : Int) = tabl m (fun t => if t < 0 then F t else 0) := by rw [tabl_zero]; exact tabl_congr fun t _ => by simp
theorem zfl_step {m j : Nat} {F : Nat → Int} : (tabl m (fun t => if t < j then F t else 0)).set j (F j) = tabl m (fun t => if t < j + 1 then F t else 0) := by
  rw [tabl_set]
  refine tabl_congr fun t _ => ?_
  by_cases h1 : t = j
  · rw [if_pos h1, if_pos (by omega), h1]
  · rw [if_neg h1]
    by_cases h2 : t < j
    · rw [if_pos h2, if_pos (by omega)]
    · rw [if_neg h2, if_neg (by omega)]
theorem zfl_end {m : Nat} {F : Nat → Int} : tabl m (fun t => if t < m then F t else 0) = tabl m F := tabl_congr fun t h => by rw [if_pos h]

set_option maxRecDepth 100000 in
set_option maxHeartbeats 2000000 in
theorem cellIndex_any (P A V U Vx : Option Addr) (g cg n c m d k e lx p : Nat) (a : Int) (ps : List Int) (t : TabD) (vs : List (ByteArray × Int)) (xs : List Int) (w : World) (hg : GeoOk ps g) (hX : IntR w P g ps) (hS : SchR w A n c vs) (hT : TabR w V m U k t) (hk : KeyOk vs xs t.vars n) (hy : Ints w Vx m (pickL xs t.vars m)) (hp : p < (lvl ps t.lv g).length) (he : (lvl ps t.lv g)[p]?.getD 0 = a) :
    Calls Tryz.prog 193 #[.agg #[.slice P g cg], .slice A n c, .agg #[.int .i64 t.lv, .slice V m d, .slice U k e, .int .i64 t.sum], .int .i64 a, .slice Vx m lx] w fun e w' => e = .returned (.int .i64 ((p : Int) * prodN vs t.vars t.vars.length + keyV vs xs t.vars)) ∧ Below w.heap.size w w' := by
  have hl := Lib.hid hT.v.len
  have HG := Lib.hid hg
  have HK := Lib.hid hk
  have hlv := Nat.le_trans (lvl_len (ps := ps) (v := t.lv) g) hg.most
  have HRI := Lib.hid (lvl_rise (ps := ps) (v := t.lv) g)
  have hpr := hk.part.prod
  have hky := hk.keyV_bd
  obtain ⟨PR, hPR⟩ : ∃ x, prodN vs t.vars t.vars.length = x := ⟨_, rfl⟩
  obtain ⟨KV, hKV⟩ : ∃ x, keyV vs xs t.vars = x := ⟨_, rfl⟩
  rw [hPR] at hpr ⊢
  rw [hKV] at hky ⊢
  have HPR := Lib.hid (show prodN vs t.vars m = PR by rw [← hl.out]; exact hPR)
  have HKV := Lib.hid hKV
  have hbd := cell_bd hp hlv hpr.1 hpr.2 hky.1 hky.2
  have hw1 : IntKind.i64.wrap ((p : Int) * PR) = (p : Int) * PR := IntWalk.i64_in _ (by omega)
  have hw2 : IntKind.i64.wrap ((p : Int) * PR + KV) = (p : Int) * PR + KV := IntWalk.i64_in _ (by omega)
  have HP := Lib.hid hp
  have HE := Lib.hid he
  clear hg hk hpr hky hbd hPR hKV hp he
  obtain ⟨b0, xg, xt⟩ := box_two w #[.slice P g cg] #[.int .i64 t.lv, .slice V m d, .slice U k e, .int .i64 t.sum] 36 56
  replace hX := hX.below b0
  replace hS := hS.below b0
  replace hT := hT.below b0
  replace hy := hy.below b0
  have HB := Lib.hid b0
  have Xg := Lib.hid xg
  have Xt := Lib.hid xt
  clear b0 xg xt
  go_enter Tryz.func193, Tryz.ntmps193
  have lg := lt_of_block Xg.out
  have cg0 := bxc Xg.out 0 _ rfl
  have lt := lt_of_block Xt.out
  have ct0 := bxc Xt.out 0 _ rfl
  go_wp2_with fail
  clear lg cg0 lt ct0
  generalize (w.alloc (.cells #[.slice P g cg] 36)).alloc (.cells #[.int .i64 t.lv, .slice V m d, .slice U k e, .int .i64 t.sum] 56) = w0 at *
  refine (areasAt_any P g cg ps t.lv _ hX HG.out).mono ?_
  rintro e w1 ⟨Aa, ca, rfl, o1, b1⟩
  have hA := IntR.mk o1.ints (by omega)
  clear o1
  replace Xg := Lib.hid (bxb Xg.out b1)
  replace Xt := Lib.hid (bxb Xt.out b1)
  replace hX := hX.below b1
  replace hS := hS.below b1
  replace hT := hT.below b1
  replace hy := hy.below b1
  replace HB := Lib.hid (HB.out.trans (b1.mono HB.out.size))
  clear b1
  go_wp2_with fail
  refine (binSearch_any Aa (lvl ps t.lv g).length ca p a (lvl ps t.lv g) _ hA hlv HRI.out HP.out HE.out).mono ?_
  rintro e w2 ⟨rfl, rfl⟩
  clear hA
  have lt := lt_of_block Xt.out
  have ct0 := bxc Xt.out 0 _ rfl
  have ct1 := bxc Xt.out 1 _ rfl
  have ct2 := bxc Xt.out 2 _ rfl
  have ct3 := bxc Xt.out 3 _ rfl
  go_wp2_with fail
  clear lt ct0 ct1 ct2 ct3
  refine (crossed_any A V U n c m d k e t vs _ hS hT HK.out.part).mono ?_
  rintro e w3 ⟨Ax, cx, rfl, oV, b3⟩
  replace Xg := Lib.hid (bxb Xg.out b3)
  replace Xt := Lib.hid (bxb Xt.out b3)
  replace hX := hX.below b3
  replace hS := hS.below b3
  replace hT := hT.below b3
  replace hy := hy.below b3
  replace HB := Lib.hid (HB.out.trans (b3.mono HB.out.size))
  clear b3
  have hV := oV.vars
  clear oV
  go_wp2_with fail
  refine (combinations_any Ax n cx m vs t.vars _ hV hl.out HK.out.part).mono ?_
  rintro e w4 ⟨rfl, b4⟩
  replace hV := hV.below b4
  replace Xg := Lib.hid (bxb Xg.out b4)
  replace Xt := Lib.hid (bxb Xt.out b4)
  replace hX := hX.below b4
  replace hS := hS.below b4
  replace hT := hT.below b4
  replace hy := hy.below b4
  replace HB := Lib.hid (HB.out.trans (b4.mono HB.out.size))
  clear b4
  rw [HPR.out]
  go_wp2_with fail
  refine (indexOfValues_any Ax Vx n cx m lx vs xs t.vars _ hV hy hl.out HK.out).mono ?_
  rintro e w5 ⟨rfl, rfl⟩
  rw [HKV.out]
  clear hV hy hX hS hT
  go_wp2
  go_ret
  exact ⟨rfl, HB.out⟩

set_option maxRecDepth 100000 in
set_option maxHeartbeats 2000000 in
theorem contribution_any (P A V U Vr : Option Addr) (g cg n c m d k e mr cr : Nat) (x y : Int) (ps : List Int) (t : TabD) (vs : List (ByteArray × Int)) (xs : List Int) (w : World) (h : TabOk ps vs t g n) (hv : valsB vs xs = true) (hx : 0 ≤ x) (hxg : x < g) (hX : IntR w P g ps) (hS : SchR w A n c vs) (hT : TabR w V m U k t) (hR : IntR w Vr mr xs) :
    Calls Tryz.prog 159 #[.agg #[.slice P g cg], .slice A n c, .agg #[.int .i64 t.lv, .slice V m d, .slice U k e, .int .i64 t.sum], .agg #[.int .i64 x, .int .i64 y, .slice Vr mr cr]] w fun e w' => e = .returned (.tuple #[.int .i64 (cellI ps vs t x xs), .int .i64 (cellA ps t x xs)]) ∧ Below w.heap.size w w' := by
  have hl := Lib.hid hT.v.len
  have HG := Lib.hid h.geo
  have HT0 := Lib.hid h
  have HK := Lib.hid (h.key hv)
  have hwh := whB_of h.wh
  have hk : k = n := by have := hT.u.len; have := h.part.len; omega
  have hmr : n = mr := by have h1 := (valsB_of hv).1; have := hR.len; have := h.part.len; omega
  subst hk
  subst hmr
  have hm6 : m ≤ 6 := by have := h.part.six; have := hl.out; omega
  have HW := Lib.hid (fun i (hi : i < k) => show 0 ≤ t.wh[i]?.getD 0 ∧ t.wh[i]?.getD 0 ≤ 255 from by
    have h1 := hwh.2 i (by rw [h.part.len]; exact hi)
    have h2 := (schB_of h.part.s).2 i (by rw [h.part.len]; exact hi)
    have h3 := pow2_bd h2.1 h2.2
    omega)
  have HV := Lib.hid (fun i (hi : i < k) => show 0 ≤ xs[i]?.getD 0 ∧ xs[i]?.getD 0 ≤ 7 from by
    have h1 := (valsB_of hv).2 i (by rw [h.part.len]; exact hi)
    have h2 := (schB_of h.part.s).2 i (by rw [h.part.len]; exact hi)
    omega)
  have hsum := h.sum
  have hlv := h.lvl_le
  have hpr := h.part.prod
  have hky := (h.key hv).keyV_bd
  obtain ⟨i0, rfl⟩ : ∃ i0 : Nat, x = i0 := ⟨x.toNat, by omega⟩
  have hi0 : i0 < g := by omega
  have HAM := Lib.hid (fun h1 => anc_mem h.geo (i := i0) (v := t.lv) hi0 h1)
  have HN := Lib.hid (cellI_no (ps := ps) (vs := vs) (t := t) (x := (i0 : Int)) (xs := xs))
  have HY := Lib.hid (cellI_yes (ps := ps) (vs := vs) (t := t) (x := (i0 : Int)) (xs := xs))
  rw [Int.toNat_natCast, h.geo.len] at HY
  rw [Int.toNat_natCast] at HN
  clear hwh h hv hx hxg
  obtain ⟨b0, xg, xt, xr, _⟩ := box_three w #[.slice P g cg] #[.int .i64 t.lv, .slice V m d, .slice U k e, .int .i64 t.sum] #[.int .i64 i0, .int .i64 y, .slice Vr k cr] 36 56 135
  replace hX := hX.below b0
  replace hS := hS.below b0
  replace hT := hT.below b0
  replace hR := hR.below b0
  have HB := Lib.hid b0
  have Xg := Lib.hid xg
  have Xt := Lib.hid xt
  have Xr := Lib.hid xr
  clear b0 xg xt xr
  go_enter Tryz.func159, Tryz.ntmps159
  have lg := lt_of_block Xg.out
  have cg0 := bxc Xg.out 0 _ rfl
  have lt := lt_of_block Xt.out
  have ct0 := bxc Xt.out 0 _ rfl
  have lr := lt_of_block Xr.out
  have cr0 := bxc Xr.out 0 _ rfl
  go_wp2_with fail
  clear lg cg0 lt ct0 lr cr0
  generalize ((w.alloc (.cells #[.slice P g cg] 36)).alloc (.cells #[.int .i64 t.lv, .slice V m d, .slice U k e, .int .i64 t.sum] 56)).alloc (.cells #[.int .i64 i0, .int .i64 y, .slice Vr k cr] 135) = w0 at *
  refine (ancestorAt_any P g cg ps i0 t.lv _ hX HG.out hi0).mono ?_
  rintro e w1 ⟨rfl, b1⟩
  replace Xg := Lib.hid (bxb Xg.out b1)
  replace Xt := Lib.hid (bxb Xt.out b1)
  replace Xr := Lib.hid (bxb Xr.out b1)
  replace hX := hX.below b1
  replace hS := hS.below b1
  replace hT := hT.below b1
  replace hR := hR.below b1
  replace HB := Lib.hid (HB.out.trans (b1.mono HB.out.size))
  clear b1
  by_cases ha : anc ps i0 t.lv < 0
  · have R := Lib.hid (HN.out (.inl ha))
    clear HN HY HAM
    generalize anc ps i0 t.lv = a at *
    go_wp2
    exact bodyPost_ret (v := .tuple #[.int .i64 (-1), .int .i64 0]) (by simp [results, Tryz.results159, go_sem]) rfl ⟨by rw [R.out.1, R.out.2], HB.out⟩
  have ha0 : 0 ≤ anc ps i0 t.lv := by omega
  have HMM := Lib.hid (HAM.out ha0)
  clear HAM
  cases hm : meetB t.wh xs
  · have R := Lib.hid (HN.out (.inr hm))
    have HM := Lib.hid hm
    clear HN HY hm
    generalize anc ps i0 t.lv = a at *
    have lt := lt_of_block Xt.out
    have ct0 := bxc Xt.out 0 _ rfl
    have ct1 := bxc Xt.out 1 _ rfl
    have ct2 := bxc Xt.out 2 _ rfl
    have ct3 := bxc Xt.out 3 _ rfl
    have lr := lt_of_block Xr.out
    have cr0 := bxc Xr.out 0 _ rfl
    have cr1 := bxc Xr.out 1 _ rfl
    have cr2 := bxc Xr.out 2 _ rfl
    go_wp2_with fail
    clear lt ct0 ct1 ct2 ct3 lr cr0 cr1 cr2
    refine (meetsWhere_any V U Vr m d k e k cr t i0 y xs _ hT hR HW.out HV.out (Nat.le_refl _)).mono ?_
    rintro e w2 ⟨rfl, b2⟩
    replace Xg := Lib.hid (bxb Xg.out b2)
    replace Xt := Lib.hid (bxb Xt.out b2)
    replace Xr := Lib.hid (bxb Xr.out b2)
    replace hX := hX.below b2
    replace hS := hS.below b2
    replace hT := hT.below b2
    replace hR := hR.below b2
    replace HB := Lib.hid (HB.out.trans (b2.mono HB.out.size))
    clear b2
    rw [HM.out]
    go_wp2
    exact bodyPost_ret (v := .tuple #[.int .i64 (-1), .int .i64 0]) (by simp [results, Tryz.results159, go_sem]) rfl ⟨by rw [R.out.1, R.out.2], HB.out⟩
  have R := Lib.hid (HY.out ha0 hm)
  have HM := Lib.hid hm
  clear HN HY hm
  obtain ⟨a, hae⟩ : ∃ a, anc ps i0 t.lv = a := ⟨_, rfl⟩
  rw [hae] at HMM R ha ha0 ⊢
  clear hae
  have hp := posL_lt HMM.out
  have he : (lvl ps t.lv g)[posL (lvl ps t.lv g) a]?.getD 0 = a := by rw [List.getElem?_eq_getElem hp, Option.getD_some]; exact posL_get hp
  have HF := Lib.hid (fun j (hj : j < posL (lvl ps t.lv g) a) => show (lvl ps t.lv g)[j]?.getD 0 ≠ a by rw [List.getElem?_eq_getElem (by omega), Option.getD_some]; exact posL_not hj (by omega))
  generalize posL (lvl ps t.lv g) a = p at *
  have HP := Lib.hid hp
  have HE := Lib.hid he
  clear hp he
  have lt := lt_of_block Xt.out
  have ct0 := bxc Xt.out 0 _ rfl
  have ct1 := bxc Xt.out 1 _ rfl
  have ct2 := bxc Xt.out 2 _ rfl
  have ct3 := bxc Xt.out 3 _ rfl
  have lr := lt_of_block Xr.out
  have cr0 := bxc Xr.out 0 _ rfl
  have cr1 := bxc Xr.out 1 _ rfl
  have cr2 := bxc Xr.out 2 _ rfl
  go_wp2_with fail
  clear lt ct0 ct1 ct2 ct3 lr cr0 cr1 cr2
  refine (meetsWhere_any V U Vr m d k e k cr t i0 y xs _ hT hR HW.out HV.out (Nat.le_refl _)).mono ?_
  rintro e w2 ⟨rfl, b2⟩
  replace Xg := Lib.hid (bxb Xg.out b2)
  replace Xt := Lib.hid (bxb Xt.out b2)
  replace Xr := Lib.hid (bxb Xr.out b2)
  replace hX := hX.below b2
  replace hS := hS.below b2
  replace hT := hT.below b2
  replace hR := hR.below b2
  replace HB := Lib.hid (HB.out.trans (b2.mono HB.out.size))
  clear b2
  rw [HM.out]
  have HAV := Lib.hid (show amtV t xs = if t.sum < 0 then 1 else xs[t.sum.toNat]?.getD 0 from rfl)
  obtain ⟨i1, hi, hz0, hz1, hz2⟩ := info_parts Tryz.infoInt
  have lt := lt_of_block Xt.out
  have ct1 := bxc Xt.out 1 _ rfl
  go_wp2_with (at_make; refine wpList_make_full _ rfl _ _ 22 rfl w2.heap.size 3 i1 _ 1 Tryz.underlying22 hi hz0 hz1 .i64 .i64 _ _ m rfl rfl rfl rfl (by rw [hz2]; omega) (by unfold maxLen; omega) (Nat.le_refl _) ?_; intro w3 hown hg; rw [map_replicate0] at hown; have b3 : Below w2.heap.size w2 w3 := (Below.refl _ _).grown hg (Nat.le_refl _) (by simp); clear hg; have xt3 := bxb Xt.out b3; have lt3 := lt_of_block xt3; have ct3 := bxc xt3 1 _ rfl)
  have HB3 := Lib.hid b3
  have s2 := HB.out.size
  have HO := Lib.hid (show Own w3 w2.heap.size (some ⟨w2.heap.size, 0, none⟩) m m (tabl m (fun t2 => if t2 < 0 then xs[ix t.vars t2]?.getD 0 else 0)) by rw [← zfl_zero]; exact hown)
  have HX := Lib.hid hX
  have HS := Lib.hid hS
  have HT := Lib.hid hT
  have HR := Lib.hid hR
  clear hown hX hS hT hR b3 lt ct1 lt3 ct3 xt3 hi hz0 hz1 hz2
  go_loopw [36] (fun i wr => ∃ j : Nat, j ≤ m ∧ i = .int .i64 j ∧ Hid (Own wr w2.heap.size (some ⟨w2.heap.size, 0, none⟩) m m (tabl m (fun t2 => if t2 < j then xs[ix t.vars t2]?.getD 0 else 0))) ∧ Hid (Below w2.heap.size w2 wr)) (fun i _ => m - (intOf i).toNat)
  case atStart => exact ⟨0, Nat.zero_le _, rfl, HO, HB3⟩
  case round =>
    clear HO HB3
    obtain ⟨j, hj, rfl, HO, HB5⟩ := hrel
    obtain ⟨wo, rfl⟩ : ∃ wo : World, wo = wr := ⟨_, rfl⟩
    have s4 := HB5.out.size
    have xr5 := bxb Xr.out HB5.out
    by_cases hlt : j < m
    · have hju : j < t.vars.length := by rw [hl.out]; exact hlt
      obtain ⟨hi1, hi2⟩ := HK.out.ix_lt hju
      obtain ⟨av, rfl, hcv⟩ := (HT.out.below HB5.out).v.i.at_ hlt
      obtain ⟨ax, rfl, hcx⟩ := (HR.out.below HB5.out).i.at_ hi1
      rw [hi2] at hcv
      obtain ⟨_, ea, _, hlo, hco, hfo⟩ := HO.out.at_ hlt
      injection ea with ea
      injection ea with ea
      subst ea
      have HO2 := Lib.hid (show Own (wo.setCell ⟨w2.heap.size, j, none⟩ (.int .i64 (xs[ix t.vars j]?.getD 0))) w2.heap.size (some ⟨w2.heap.size, 0, none⟩) m m (tabl m (fun t2 => if t2 < j + 1 then xs[ix t.vars t2]?.getD 0 else 0)) by rw [← zfl_step]; exact HO.out.set)
      have HB6 := Lib.hid (HB5.out.setCell (p := ⟨w2.heap.size, j, none⟩) (Nat.le_refl _) (.int .i64 (xs[ix t.vars j]?.getD 0)))
      have lr := lt_of_block xr5
      have cr2 := bxc xr5 2 _ rfl
      clear xr5 HO HB5 hi2 hju
      generalize ix t.vars j = q at *
      generalize xs[q]?.getD 0 = v at *
      go_wp2
      go_roundw
      case rel => exact ⟨j + 1, by omega, by go_num, HO2, HB6⟩
      case measure => simp [intOf]; omega
    · obtain rfl : j = m := by omega
      have HO2 := Lib.hid (show Own wo w2.heap.size (some ⟨w2.heap.size, 0, none⟩) j j (pickL xs t.vars j) by have h9 := HO.out; rw [zfl_end] at h9; exact h9)
      clear HO
      have xt5 := bxb Xt.out HB5.out
      have xg5 := bxb Xg.out HB5.out
      have HB6 := Lib.hid (HB.out.trans (HB5.out.mono s2))
      have HX6 := Lib.hid (HX.out.below HB5.out)
      have HS6 := Lib.hid (HS.out.below HB5.out)
      have HT6 := Lib.hid (HT.out.below HB5.out)
      have HR6 := Lib.hid (HR.out.below HB5.out)
      clear HX HS HT HR HB5
      have lg := lt_of_block xg5
      have lt := lt_of_block xt5
      have lr := lt_of_block xr5
      have cg0 := bxc xg5 0 _ rfl
      have ct0 := bxc xt5 0 _ rfl
      have ct1 := bxc xt5 1 _ rfl
      have ct2 := bxc xt5 2 _ rfl
      have ct3 := bxc xt5 3 _ rfl
      have cr2 := bxc xr5 2 _ rfl
      clear xg5 xt5 xr5 Xg Xt Xr
      by_cases hs : t.sum < 0
      · have HA2 := Lib.hid (HAV.out.trans (if_pos hs))
        go_wp2_with fail
        refine (cellIndex_any P A V U (some ⟨w2.heap.size, 0, none⟩) g cg k c j d k e j p a ps t vs xs _ HG.out HX6.out HS6.out HT6.out HK.out HO2.out.ints HP.out HE.out).mono ?_
        rintro e w7 ⟨rfl, b7⟩
        have HB7 := Lib.hid (HB6.out.trans (b7.mono HB6.out.size))
        clear b7 HX6 HS6 HT6 HR6 HO2 lg lt lr cg0 ct0 ct1 ct2 ct3 cr2
        go_wp2
        exact bodyPost_ret (v := .tuple #[.int .i64 ((p : Int) * prodN vs t.vars t.vars.length + keyV vs xs t.vars), .int .i64 1]) (by simp [results, Tryz.results159, go_sem]) rfl ⟨by rw [R.out.1, R.out.2, HA2.out], HB7.out⟩
      · have HA2 := Lib.hid (HAV.out.trans (if_neg hs))
        obtain ⟨s, hsn⟩ : ∃ s : Nat, t.sum = (s : Int) := ⟨t.sum.toNat, by omega⟩
        rw [hsn] at ct3 hsum HA2
        rw [Int.toNat_natCast] at HA2
        obtain ⟨ax, rfl, hcx⟩ := HR6.out.i.at_ (show s < k by omega)
        have HSN := Lib.hid hsn
        clear hsn
        generalize xs[s]?.getD 0 = v at *
        go_wp2_with fail
        try rw [← HSN.out]
        refine (cellIndex_any P A V U (some ⟨w2.heap.size, 0, none⟩) g cg k c j d k e j p a ps t vs xs _ HG.out HX6.out HS6.out HT6.out HK.out HO2.out.ints HP.out HE.out).mono ?_
        rintro e w7 ⟨rfl, b7⟩
        have HB7 := Lib.hid (HB6.out.trans (b7.mono HB6.out.size))
        clear b7 HX6 HS6 HT6 HR6 HO2 lg lt lr cg0 ct0 ct1 ct2 ct3 cr2 hcx
        go_wp2
        exact bodyPost_ret (v := .tuple #[.int .i64 ((p : Int) * prodN vs t.vars t.vars.length + keyV vs xs t.vars), .int .i64 v]) (by simp [results, Tryz.results159, go_sem]) rfl ⟨by rw [R.out.1, R.out.2, HA2.out], HB7.out⟩

set_option maxRecDepth 100000 in
set_option maxHeartbeats 2000000 in
theorem uCell_any (P A V U Vr : Option Addr) (g cg n c m d k e mr cr : Nat) (x y : Int) (ps : List Int) (t : TabD) (vs : List (ByteArray × Int)) (xs : List Int) (w : World) (h : TabOk ps vs t g n) (hv : valsB vs xs = true) (hx : 0 ≤ x) (hxg : x < g) (hX : IntR w P g ps) (hS : SchR w A n c vs) (hT : TabR w V m U k t) (hR : IntR w Vr mr xs) :
    Calls Tryz.prog 178 #[.agg #[.slice P g cg], .slice A n c, .agg #[.int .i64 t.lv, .slice V m d, .slice U k e, .int .i64 t.sum], .agg #[.int .i64 x, .int .i64 y, .slice Vr mr cr]] w fun e w' => e = .returned (.tuple #[.int .i64 (cellI ps vs t x xs), .int .i64 (cellA ps t x xs)]) ∧ Below w.heap.size w w' := by
  have hl := Lib.hid hT.v.len
  have HG := Lib.hid h.geo
  have HT0 := Lib.hid h
  have HK := Lib.hid (h.key hv)
  have hwh := whB_of h.wh
  have hk : k = n := by have := hT.u.len; have := h.part.len; omega
  have hmr : n = mr := by have h1 := (valsB_of hv).1; have := hR.len; have := h.part.len; omega
  subst hk
  subst hmr
  have hm6 : m ≤ 6 := by have := h.part.six; have := hl.out; omega
  have HW := Lib.hid (fun i (hi : i < k) => show 0 ≤ t.wh[i]?.getD 0 ∧ t.wh[i]?.getD 0 ≤ 255 from by
    have h1 := hwh.2 i (by rw [h.part.len]; exact hi)
    have h2 := (schB_of h.part.s).2 i (by rw [h.part.len]; exact hi)
    have h3 := pow2_bd h2.1 h2.2
    omega)
  have HV := Lib.hid (fun i (hi : i < k) => show 0 ≤ xs[i]?.getD 0 ∧ xs[i]?.getD 0 ≤ 7 from by
    have h1 := (valsB_of hv).2 i (by rw [h.part.len]; exact hi)
    have h2 := (schB_of h.part.s).2 i (by rw [h.part.len]; exact hi)
    omega)
  have hsum := h.sum
  have hlv := h.lvl_le
  have hpr := h.part.prod
  have hky := (h.key hv).keyV_bd
  obtain ⟨i0, rfl⟩ : ∃ i0 : Nat, x = i0 := ⟨x.toNat, by omega⟩
  have hi0 : i0 < g := by omega
  have HAM := Lib.hid (fun h1 => anc_mem h.geo (i := i0) (v := t.lv) hi0 h1)
  have HN := Lib.hid (cellI_no (ps := ps) (vs := vs) (t := t) (x := (i0 : Int)) (xs := xs))
  have HY := Lib.hid (cellI_yes (ps := ps) (vs := vs) (t := t) (x := (i0 : Int)) (xs := xs))
  rw [Int.toNat_natCast, h.geo.len] at HY
  rw [Int.toNat_natCast] at HN
  clear hwh h hv hx hxg
  obtain ⟨b0, xg, xt, xr, _⟩ := box_three w #[.slice P g cg] #[.int .i64 t.lv, .slice V m d, .slice U k e, .int .i64 t.sum] #[.int .i64 i0, .int .i64 y, .slice Vr k cr] 36 56 135
  replace hX := hX.below b0
  replace hS := hS.below b0
  replace hT := hT.below b0
  replace hR := hR.below b0
  have HB := Lib.hid b0
  have Xg := Lib.hid xg
  have Xt := Lib.hid xt
  have Xr := Lib.hid xr
  clear b0 xg xt xr
  go_enter Tryz.func178, Tryz.ntmps178
  have lg := lt_of_block Xg.out
  have cg0 := bxc Xg.out 0 _ rfl
  have lt := lt_of_block Xt.out
  have ct0 := bxc Xt.out 0 _ rfl
  have lr := lt_of_block Xr.out
  have cr0 := bxc Xr.out 0 _ rfl
  go_wp2_with fail
  clear lg cg0 lt ct0 lr cr0
  generalize ((w.alloc (.cells #[.slice P g cg] 36)).alloc (.cells #[.int .i64 t.lv, .slice V m d, .slice U k e, .int .i64 t.sum] 56)).alloc (.cells #[.int .i64 i0, .int .i64 y, .slice Vr k cr] 135) = w0 at *
  refine (gUp_any P g cg ps i0 t.lv _ hX HG.out hi0).mono ?_
  rintro e w1 ⟨rfl, b1⟩
  replace Xg := Lib.hid (bxb Xg.out b1)
  replace Xt := Lib.hid (bxb Xt.out b1)
  replace Xr := Lib.hid (bxb Xr.out b1)
  replace hX := hX.below b1
  replace hS := hS.below b1
  replace hT := hT.below b1
  replace hR := hR.below b1
  replace HB := Lib.hid (HB.out.trans (b1.mono HB.out.size))
  clear b1
  by_cases ha : anc ps i0 t.lv < 0
  · have R := Lib.hid (HN.out (.inl ha))
    clear HN HY HAM
    generalize anc ps i0 t.lv = a at *
    go_wp2
    exact bodyPost_ret (v := .tuple #[.int .i64 (-1), .int .i64 0]) (by simp [results, Tryz.results178, go_sem]) rfl ⟨by rw [R.out.1, R.out.2], HB.out⟩
  have ha0 : 0 ≤ anc ps i0 t.lv := by omega
  have HMM := Lib.hid (HAM.out ha0)
  clear HAM
  cases hm : meetB t.wh xs
  · have R := Lib.hid (HN.out (.inr hm))
    have HM := Lib.hid hm
    clear HN HY hm
    generalize anc ps i0 t.lv = a at *
    have lt := lt_of_block Xt.out
    have ct0 := bxc Xt.out 0 _ rfl
    have ct1 := bxc Xt.out 1 _ rfl
    have ct2 := bxc Xt.out 2 _ rfl
    have ct3 := bxc Xt.out 3 _ rfl
    have lr := lt_of_block Xr.out
    have cr2 := bxc Xr.out 2 _ rfl
    go_wp2_with fail
    clear lt ct0 ct1 ct2 ct3 lr cr2
    refine (uMeets_any V U Vr m d k e k cr t xs _ hT hR HW.out HV.out (Nat.le_refl _)).mono ?_
    rintro e w2 ⟨rfl, b2⟩
    replace Xg := Lib.hid (bxb Xg.out b2)
    replace Xt := Lib.hid (bxb Xt.out b2)
    replace Xr := Lib.hid (bxb Xr.out b2)
    replace hX := hX.below b2
    replace hS := hS.below b2
    replace hT := hT.below b2
    replace hR := hR.below b2
    replace HB := Lib.hid (HB.out.trans (b2.mono HB.out.size))
    clear b2
    rw [HM.out]
    go_wp2
    exact bodyPost_ret (v := .tuple #[.int .i64 (-1), .int .i64 0]) (by simp [results, Tryz.results178, go_sem]) rfl ⟨by rw [R.out.1, R.out.2], HB.out⟩
  have R := Lib.hid (HY.out ha0 hm)
  have HM := Lib.hid hm
  clear HN HY hm
  obtain ⟨a, hae⟩ : ∃ a, anc ps i0 t.lv = a := ⟨_, rfl⟩
  rw [hae] at HMM R ha ha0 ⊢
  clear hae
  have hp := posL_lt HMM.out
  have he : (lvl ps t.lv g)[posL (lvl ps t.lv g) a]?.getD 0 = a := by rw [List.getElem?_eq_getElem hp, Option.getD_some]; exact posL_get hp
  have HF := Lib.hid (fun j (hj : j < posL (lvl ps t.lv g) a) => show (lvl ps t.lv g)[j]?.getD 0 ≠ a by rw [List.getElem?_eq_getElem (by omega), Option.getD_some]; exact posL_not hj (by omega))
  generalize posL (lvl ps t.lv g) a = p at *
  have HP := Lib.hid hp
  have HE := Lib.hid he
  clear hp he
  have lt := lt_of_block Xt.out
  have ct0 := bxc Xt.out 0 _ rfl
  have ct1 := bxc Xt.out 1 _ rfl
  have ct2 := bxc Xt.out 2 _ rfl
  have ct3 := bxc Xt.out 3 _ rfl
  have lr := lt_of_block Xr.out
  have cr2 := bxc Xr.out 2 _ rfl
  go_wp2_with fail
  clear lt ct0 ct1 ct2 ct3 lr cr2
  refine (uMeets_any V U Vr m d k e k cr t xs _ hT hR HW.out HV.out (Nat.le_refl _)).mono ?_
  rintro e w2 ⟨rfl, b2⟩
  replace Xg := Lib.hid (bxb Xg.out b2)
  replace Xt := Lib.hid (bxb Xt.out b2)
  replace Xr := Lib.hid (bxb Xr.out b2)
  replace hX := hX.below b2
  replace hS := hS.below b2
  replace hT := hT.below b2
  replace hR := hR.below b2
  replace HB := Lib.hid (HB.out.trans (b2.mono HB.out.size))
  clear b2
  rw [HM.out]
  have HAV := Lib.hid (show amtV t xs = if t.sum < 0 then 1 else xs[t.sum.toNat]?.getD 0 from rfl)
  have lt := lt_of_block Xt.out
  have ct1 := bxc Xt.out 1 _ rfl
  go_wp2_with fail
  clear lt ct1
  refine (sPart_any A V k c m d vs t.vars _ hS hT.v HK.out.part).mono ?_
  rintro e w3 ⟨Ax, cx, rfl, oV, b3⟩
  replace Xg := Lib.hid (bxb Xg.out b3)
  replace Xt := Lib.hid (bxb Xt.out b3)
  replace Xr := Lib.hid (bxb Xr.out b3)
  replace hX := hX.below b3
  replace hS := hS.below b3
  replace hT := hT.below b3
  replace hR := hR.below b3
  replace HB := Lib.hid (HB.out.trans (b3.mono HB.out.size))
  clear b3
  have hV := oV.vars
  clear oV
  have hbd := cell_bd HP.out hlv hpr.1 hpr.2 hky.1 hky.2
  obtain ⟨PR, hPR⟩ : ∃ x, prodN vs t.vars t.vars.length = x := ⟨_, rfl⟩
  obtain ⟨KV, hKV⟩ : ∃ x, keyV vs xs t.vars = x := ⟨_, rfl⟩
  rw [hPR] at hbd
  rw [hKV] at hbd R
  have HPR := Lib.hid (show prodN vs t.vars m = PR by rw [← hl.out]; exact hPR)
  rw [hPR] at R
  have HKV := Lib.hid hKV
  have hw1 : IntKind.i64.wrap ((p : Int) * PR) = (p : Int) * PR := IntWalk.i64_in _ (by omega)
  have hw2 : IntKind.i64.wrap ((p : Int) * PR + KV) = (p : Int) * PR + KV := IntWalk.i64_in _ (by omega)
  clear hPR hKV hbd hpr hky
  have lg := lt_of_block Xg.out
  have lt := lt_of_block Xt.out
  have lr := lt_of_block Xr.out
  go_wp2_with fail
  clear lg lt lr
  have s3 := HB.out.size
  have BL := (Below.refl w3.heap.size w3).drew
  have xg : w3.drew.heap[w.heap.size]? = _ := Xg.out
  have xt : w3.drew.heap[w.heap.size + 1]? = _ := Xt.out
  have xr : w3.drew.heap[w.heap.size + 1 + 1]? = _ := Xr.out
  have lg := lt_of_block xg
  have lt := lt_of_block xt
  have lr := lt_of_block xr
  clear Xg Xt Xr
  replace hV := hV.below BL
  go_region_held3 (fun w' => w'.cell? ⟨w.heap.size, 0, none⟩ = some (.slice P g cg) ∧ w'.cell? ⟨w.heap.size + 1, 0, none⟩ = some (.int .i64 t.lv) ∧ w'.cell? ⟨w.heap.size + 1, 1, none⟩ = some (.slice V m d) ∧ w'.cell? ⟨w.heap.size + 1 + 1, 2, none⟩ = some (.slice Vr k cr)) (exact ⟨bxc xg 0 _ rfl, bxc xt 0 _ rfl, bxc xt 1 _ rfl, bxc xr 2 _ rfl⟩) (first
      | (go_at_call 130; refine (gLevel_any P g cg ps t.lv _ (hX.below BL) HG.out).mono ?_; rintro e wq ⟨Al, cl, rfl, ol, bq⟩; replace xg := bxb xg bq; replace xt := bxb xt bq; replace xr := bxb xr bq; (first | (replace oP := oP.below bq) | skip); (first | (replace oL := oL.below bq) | skip); replace hV := hV.below bq; replace BL := BL.trans (bq.mono BL.size); clear bq; have oL := IntR.mk ol.ints (by omega); clear ol)
      | (go_at_call 203; refine (l1Find_any _ _ _ p a (lvl ps t.lv g) _ oL HP.out HE.out HF.out).mono ?_; rintro e wq ⟨rfl, rfl⟩)
      | (go_at_call 176; refine (sCount_any Ax k cx m vs t.vars _ hV hl.out HK.out.part).mono ?_; rintro e wq ⟨rfl, bq⟩; rw [HPR.out]; replace xg := bxb xg bq; replace xt := bxb xt bq; replace xr := bxb xr bq; (first | (replace oP := oP.below bq) | skip); (first | (replace oL := oL.below bq) | skip); replace hV := hV.below bq; replace BL := BL.trans (bq.mono BL.size); clear bq)
      | (go_at_call 205; refine (sPick_any Vr V k cr m d xs t.vars _ (hR.below BL) (hT.below BL).v (fun q hq => HK.out.ix_lt (by rw [hl.out]; exact hq))).mono ?_; rintro e wq ⟨Ap, cp, rfl, op, bq⟩; replace xg := bxb xg bq; replace xt := bxb xt bq; replace xr := bxb xr bq; (first | (replace oP := oP.below bq) | skip); (first | (replace oL := oL.below bq) | skip); replace hV := hV.below bq; replace BL := BL.trans (bq.mono BL.size); clear bq; have oP := op.ints; clear op)
      | (go_at_call 204; refine (sIndex_any Ax _ k cx m _ vs xs t.vars _ hV oP hl.out HK.out).mono ?_; rintro e wq ⟨rfl, bq⟩; rw [HKV.out]; replace xg := bxb xg bq; replace xt := bxb xt bq; replace xr := bxb xr bq; (first | (replace oP := oP.below bq) | skip); (first | (replace oL := oL.below bq) | skip); replace hV := hV.below bq; replace BL := BL.trans (bq.mono BL.size); clear bq))
  all_goals (have HBL := Lib.hid (HB.out.trans (BL.mono s3)); have HRB := Lib.hid (hR.below BL); have lt9 := lt_of_block xt; have lr9 := lt_of_block xr; have ct9 := bxc xt 3 _ rfl; have cr9 := bxc xr 2 _ rfl; clear xg xt xr BL hV hX hS hT hR HB lg lt lr s3 HPR HKV hw1 hw2)
  all_goals (by_cases hs : t.sum < 0)
  all_goals first
      | (have HA2 := Lib.hid (HAV.out.trans (if_pos hs)); go_wp2; exact bodyPost_ret (v := .tuple #[.int .i64 ((p : Int) * PR + KV), .int .i64 1]) (by simp [results, Tryz.results178, go_sem]) rfl ⟨by rw [R.out.1, R.out.2, HA2.out], HBL.out⟩)
      | (have HA2 := Lib.hid (HAV.out.trans (if_neg hs)); obtain ⟨s, hsn⟩ : ∃ s : Nat, t.sum = (s : Int) := ⟨t.sum.toNat, by omega⟩; rw [hsn] at ct9 hsum HA2 hs; rw [Int.toNat_natCast] at HA2; obtain ⟨ax, rfl, hcx⟩ := HRB.out.i.at_ (show s < k by omega); clear hsn; generalize xs[s]?.getD 0 = v at *; go_wp2; go_quiet (fail); go_wp2; exact bodyPost_ret (v := .tuple #[.int .i64 ((p : Int) * PR + KV), .int .i64 v]) (by simp [results, Tryz.results178, go_sem]) rfl ⟨by rw [R.out.1, R.out.2, HA2.out], below_drewN HBL.out _⟩)
end
end Go.Proofs.YtfanpbfmnckmnaaGreat
