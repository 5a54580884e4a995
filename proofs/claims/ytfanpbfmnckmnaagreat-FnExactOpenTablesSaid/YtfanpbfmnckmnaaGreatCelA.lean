/- Searching in rising lists, conditions of tables met, of the program and of the reference; printed by gce.py. -/
import Derived.Test.YtfanpbfmnckmnaaGreatTblC
namespace Go.Proofs.YtfanpbfmnckmnaaGreat
open Go.RowKit

theorem isNaN_sl (x : Int) (w : World) : Calls Tryz.prog 218 #[.int .i64 x] w fun e w' => e = .returned (.bool false) ∧ w = w' := by
  go_enter Tryz.func218, Tryz.ntmps218
  go_wp2
  go_ret
  exact ⟨rfl, rfl⟩
theorem isNaN_c (x : Int) (w : World) : Calls Tryz.prog 221 #[.int .i64 x] w fun e w' => e = .returned (.bool false) ∧ w = w' := by
  go_enter Tryz.func221, Tryz.ntmps221
  go_wp2
  go_ret
  exact ⟨rfl, rfl⟩
theorem cmpLess_any (x y : Int) (w : World) : Calls Tryz.prog 217 #[.int .i64 x, .int .i64 y] w fun e w' => e = .returned (.bool (decide (x < y))) ∧ w = w' := by
  go_enter Tryz.func217, Tryz.ntmps217
  go_wp2_with fail
  refine (isNaN_c x w).mono ?_
  rintro e w1 ⟨rfl, rfl⟩
  go_wp2
  go_ret
  exact ⟨rfl, rfl⟩
/-- In a rising list, what lies below a member lies ahead of it. -/
theorem ris_lt {xs : List Int} {p h : Nat} {a : Int} (hp : xs.Pairwise (· < ·)) (hpl : p < xs.length) (hhl : h < xs.length) (e : xs[p]?.getD 0 = a) : xs[h]?.getD 0 < a ↔ h < p := by
  rw [List.getElem?_eq_getElem hpl, Option.getD_some] at e
  rw [List.getElem?_eq_getElem hhl, Option.getD_some]
  constructor
  · intro h1
    rcases Nat.lt_trichotomy h p with h2 | h2 | h2
    · exact h2
    · subst h2; omega
    · have := List.pairwise_iff_getElem.1 hp _ _ hpl hhl h2; omega
  · intro h1
    have := List.pairwise_iff_getElem.1 hp _ _ hhl hpl h1
    omega

set_option maxRecDepth 100000 in
set_option maxHeartbeats 2000000 in
theorem binSearch_any (A : Option Addr) (n c p : Nat) (a : Int) (xs : List Int) (w : World) (hx : IntR w A n xs) (hn30 : n ≤ 30) (hr : xs.Pairwise (· < ·)) (hp : p < n) (he : xs[p]?.getD 0 = a) :
    Calls Tryz.prog 212 #[.slice A n c, .int .i64 a] w fun e w' => e = .returned (.tuple #[.int .i64 p, .bool true]) ∧ w = w' := by
  have hl := Lib.hid hx.len
  have HL := Lib.hid (fun h (hh : h < n) => ris_lt (h := h) hr (by rw [hl.out]; exact hp) (by rw [hl.out]; exact hh) he)
  have HE := Lib.hid he
  clear hr he
  go_enter Tryz.func212, Tryz.ntmps212
  go_wp2
  go_loop [7, 8] (fun i j => ∃ s t : Nat, i = .int .i64 s ∧ j = .int .i64 t ∧ s ≤ p ∧ p ≤ t ∧ t ≤ n) (fun i j => (intOf j).toNat - (intOf i).toNat)
  case atStart => exact ⟨0, n, rfl, rfl, Nat.zero_le _, by omega, Nat.le_refl _⟩
  case round =>
    obtain ⟨s, t, rfl, rfl, hs, ht, htn⟩ := hrel
    by_cases hlt : s < t
    · obtain ⟨h, hh⟩ : ∃ h : Nat, h = (s + t) / 2 := ⟨_, rfl⟩
      have h1 : s ≤ h := by omega
      have h2 : h < t := by omega
      obtain ⟨ad, rfl, hc⟩ := hx.i.at_ (show h < n by omega)
      have HQ := Lib.hid (HL.out h (by omega))
      have hsh : ((s : Int) + t) / 2 = (h : Int) := by omega
      clear hx hh
      go_wp2_with fail
      refine (cmpLess_any _ a _).mono ?_
      rintro e w1 ⟨rfl, rfl⟩
      by_cases hq : xs[h]?.getD 0 < a
      · have H := HQ.out.1 hq
        go_wp2
        go_round
        case rel => exact ⟨h + 1, t, by go_num, rfl, by omega, ht, htn⟩
        case measure => simp [intOf]; omega
      · have H : ¬ h < p := fun h9 => hq (HQ.out.2 h9)
        go_wp2
        go_round
        case rel => exact ⟨s, h, rfl, by go_num, hs, by omega, by omega⟩
        case measure => simp [intOf]; omega
    · obtain rfl : s = p := by omega
      obtain ⟨ad, rfl, hc⟩ := hx.i.at_ hp
      rw [HE.out] at hc
      clear hx
      go_wp2
      exact bodyPost_ret (v := .tuple #[.int .i64 s, .bool true]) (by simp [results, Tryz.results212, go_sem]) rfl ⟨rfl, rfl⟩

set_option maxRecDepth 100000 in
set_option maxHeartbeats 2000000 in
theorem l1Find_any (A : Option Addr) (n c p : Nat) (a : Int) (xs : List Int) (w : World) (hx : IntR w A n xs) (hp : p < n) (he : xs[p]?.getD 0 = a) (hf : ∀ j, j < p → xs[j]?.getD 0 ≠ a) :
    Calls Tryz.prog 203 #[.slice A n c, .int .i64 a] w fun e w' => e = .returned (.int .i64 p) ∧ w = w' := by
  have hn := hx.bd
  have HE := Lib.hid he
  have HF := Lib.hid hf
  clear he hf
  go_enter Tryz.func203, Tryz.ntmps203
  go_wp2
  go_loop [9] (fun i => ∃ k : Nat, k ≤ p ∧ i = .int .i64 k) (fun i => n - (intOf i).toNat)
  case atStart => exact ⟨0, Nat.zero_le _, rfl⟩
  case round =>
    obtain ⟨k, hk, rfl⟩ := hrel
    obtain ⟨ad, rfl, hc⟩ := hx.i.at_ (show k < n by omega)
    clear hx
    by_cases hlt : k < p
    · have hq : (xs[k]?.getD 0 == a) = false := by rw [beq_eq_false_iff_ne]; exact HF.out k hlt
      generalize xs[k]?.getD 0 = x at *
      go_wp2
      go_round
      case rel => exact ⟨k + 1, by omega, by go_num⟩
      case measure => simp [intOf]; omega
    · obtain rfl : k = p := by omega
      rw [HE.out] at hc
      go_wp2
      go_ret
      exact ⟨rfl, rfl⟩
theorem meetB_no {wh xs : List Int} {i : Nat} (hi : i < wh.length) (h : meetAt wh xs i = false) : false = meetB wh xs := by unfold meetB; rw [allTo_no hi h]

set_option maxRecDepth 100000 in
set_option maxHeartbeats 2000000 in
theorem meetsWhere_any (V U Vr : Option Addr) (m d k e mr cr : Nat) (t : TabD) (x y : Int) (xs : List Int) (w : World) (hT : TabR w V m U k t) (hv : IntR w Vr mr xs) (hw : ∀ i, i < k → 0 ≤ t.wh[i]?.getD 0 ∧ t.wh[i]?.getD 0 ≤ 255) (hxs : ∀ i, i < k → 0 ≤ xs[i]?.getD 0 ∧ xs[i]?.getD 0 ≤ 7) (hkm : k ≤ mr) :
    Calls Tryz.prog 192 #[.agg #[.int .i64 t.lv, .slice V m d, .slice U k e, .int .i64 t.sum], .agg #[.int .i64 x, .int .i64 y, .slice Vr mr cr]] w fun e w' => e = .returned (.bool (meetB t.wh xs)) ∧ Below w.heap.size w w' := by
  have hl := Lib.hid hT.u.len
  have hk0 := hT.u.bd
  have HW := Lib.hid hw
  have HX := Lib.hid hxs
  have HU := Lib.hid hT.u
  clear hw hxs hT
  obtain ⟨b0, x0, x1⟩ := box_two w #[.int .i64 t.lv, .slice V m d, .slice U k e, .int .i64 t.sum] #[.int .i64 x, .int .i64 y, .slice Vr mr cr] 56 135
  have l0 := lt_of_block x0
  have l1 := lt_of_block x1
  have c2 := box_cell x0 2 _ rfl
  have d2 := box_cell x1 2 _ rfl
  have HB := Lib.hid b0
  replace HU := Lib.hid (HU.out.below b0)
  replace hv := Lib.hid (hv.below b0)
  clear x0 x1 b0
  go_enter Tryz.func192, Tryz.ntmps192
  go_wp2
  clear c2 l0
  generalize (w.alloc (.cells #[.int .i64 t.lv, .slice V m d, .slice U k e, .int .i64 t.sum] 56)).alloc (.cells #[.int .i64 x, .int .i64 y, .slice Vr mr cr] 135) = w0 at *
  go_loop [10] (fun i => ∃ j : Nat, j ≤ k ∧ i = .int .i64 j ∧ Hid (allTo (meetAt t.wh xs) j = true)) (fun i => k - (intOf i).toNat)
  case atStart => exact ⟨0, Nat.zero_le _, rfl, Lib.hid (allTo_zero _)⟩
  case round =>
    obtain ⟨j, hj, rfl, hf⟩ := hrel
    by_cases hlt : j < k
    · obtain ⟨ad, rfl, hc⟩ := HU.out.i.at_ hlt
      obtain ⟨ad', rfl, hc'⟩ := hv.out.i.at_ (show j < mr by omega)
      obtain ⟨s0, s1⟩ := HW.out j hlt
      obtain ⟨v0, v1⟩ := HX.out j hlt
      have HA := Lib.hid (fun h => allTo_succ (p := meetAt t.wh xs) hf.out h)
      have HN := Lib.hid (fun h => meetB_no (wh := t.wh) (xs := xs) (i := j) (by rw [hl.out]; exact hlt) h)
      have HM := Lib.hid (show meetAt t.wh xs j = ((t.wh[j]?.getD 0 == 0) || memP (t.wh[j]?.getD 0) (xs[j]?.getD 0).toNat) from rfl)
      generalize t.wh[j]?.getD 0 = s at *
      generalize xs[j]?.getD 0 = v at *
      obtain ⟨q, rfl⟩ : ∃ q : Nat, v = (q : Int) := ⟨v.toNat, by omega⟩
      have hq7 : q ≤ 7 := by omega
      rw [Int.toNat_natCast] at HM
      have HP := Lib.hid (show memP s q = decide (s / 2 ^ q % 2 = 1) from rfl)
      have hd := div_pow s0 q
      have HAN := Lib.hid (and_1 (s / 2 ^ q) hd.1 (by omega))
      clear v0 v1 HU hv
      by_cases hz : s = 0
      · subst hz
        have R := Lib.hid (HA.out (by rw [HM.out]; rfl))
        clear HA HN HM HP HAN hd
        go_wp2
        go_round
        case rel => exact ⟨j + 1, by omega, by go_num, R⟩
        case measure => simp [intOf]; omega
      · have hz' : (s != 0) = true := by simp [hz]
        have hz2 : (s == 0) = false := by simp [hz]
        obtain ⟨u, hu⟩ : ∃ u, s / 2 ^ q = u := ⟨_, rfl⟩
        rw [hu] at hd HP HAN
        clear hz
        by_cases hb : u % 2 = 1
        · have R := Lib.hid (HA.out (by rw [HM.out, HP.out, decide_eq_true hb]; simp))
          have hA := HAN.out
          rw [hb] at hA
          clear hb HA HN HM HP HAN hz2
          go_wp2
          go_round
          case rel => exact ⟨j + 1, by omega, by go_num, R⟩
          case measure => simp [intOf]; omega
        · have R := Lib.hid (HN.out (by rw [HM.out, HP.out, decide_eq_false hb, hz2]; rfl))
          have hb0 : u % 2 = 0 := by omega
          have hA := HAN.out
          rw [hb0] at hA
          clear hb hb0 HA HN HM HP HAN hz2
          go_wp2
          go_ret
          exact ⟨ret_bool R.out, HB.out⟩
    · obtain rfl : j = k := by omega
      have R := Lib.hid (show true = meetB t.wh xs by unfold meetB; rw [hl.out]; exact hf.out.symm)
      clear HU hv
      go_wp2
      go_ret
      exact ⟨ret_bool R.out, HB.out⟩

set_option maxRecDepth 100000 in
set_option maxHeartbeats 2000000 in
theorem uMeets_any (V U Vr : Option Addr) (m d k e mr cr : Nat) (t : TabD) (xs : List Int) (w : World) (hT : TabR w V m U k t) (hv : IntR w Vr mr xs) (hw : ∀ i, i < k → 0 ≤ t.wh[i]?.getD 0 ∧ t.wh[i]?.getD 0 ≤ 255) (hxs : ∀ i, i < k → 0 ≤ xs[i]?.getD 0 ∧ xs[i]?.getD 0 ≤ 7) (hkm : k ≤ mr) :
    Calls Tryz.prog 202 #[.agg #[.int .i64 t.lv, .slice V m d, .slice U k e, .int .i64 t.sum], .slice Vr mr cr] w fun e w' => e = .returned (.bool (meetB t.wh xs)) ∧ Below w.heap.size w w' := by
  have hl := Lib.hid hT.u.len
  have hk0 := hT.u.bd
  have HW := Lib.hid hw
  have HX := Lib.hid hxs
  have HU := Lib.hid hT.u
  clear hw hxs hT
  have b0 := below_new w (.cells #[.int .i64 t.lv, .slice V m d, .slice U k e, .int .i64 t.sum] 56)
  have x0 := box_new w #[.int .i64 t.lv, .slice V m d, .slice U k e, .int .i64 t.sum] 56
  have l0 := lt_of_block x0
  have c2 := box_cell x0 2 _ rfl
  have HB := Lib.hid b0
  replace HU := Lib.hid (HU.out.below b0)
  replace hv := Lib.hid (hv.below b0)
  clear x0 b0
  go_enter Tryz.func202, Tryz.ntmps202
  go_wp2
  clear c2 l0
  generalize w.alloc (.cells #[.int .i64 t.lv, .slice V m d, .slice U k e, .int .i64 t.sum] 56) = w0 at *
  go_loop [10] (fun i => ∃ j : Nat, j ≤ k ∧ i = .int .i64 j ∧ Hid (allTo (meetAt t.wh xs) j = true)) (fun i => k - (intOf i).toNat)
  case atStart => exact ⟨0, Nat.zero_le _, rfl, Lib.hid (allTo_zero _)⟩
  case round =>
    obtain ⟨j, hj, rfl, hf⟩ := hrel
    by_cases hlt : j < k
    · obtain ⟨ad, rfl, hc⟩ := HU.out.i.at_ hlt
      obtain ⟨ad', rfl, hc'⟩ := hv.out.i.at_ (show j < mr by omega)
      obtain ⟨s0, s1⟩ := HW.out j hlt
      obtain ⟨v0, v1⟩ := HX.out j hlt
      have HA := Lib.hid (fun h => allTo_succ (p := meetAt t.wh xs) hf.out h)
      have HN := Lib.hid (fun h => meetB_no (wh := t.wh) (xs := xs) (i := j) (by rw [hl.out]; exact hlt) h)
      have HM := Lib.hid (show meetAt t.wh xs j = ((t.wh[j]?.getD 0 == 0) || memP (t.wh[j]?.getD 0) (xs[j]?.getD 0).toNat) from rfl)
      generalize t.wh[j]?.getD 0 = s at *
      generalize xs[j]?.getD 0 = v at *
      obtain ⟨q, rfl⟩ : ∃ q : Nat, v = (q : Int) := ⟨v.toNat, by omega⟩
      have hq7 : q ≤ 7 := by omega
      rw [Int.toNat_natCast] at HM
      have HP := Lib.hid (show memP s q = decide (s / 2 ^ q % 2 = 1) from rfl)
      have hd := div_pow s0 q
      have HAN := Lib.hid (and_1 (s / 2 ^ q) hd.1 (by omega))
      clear v0 v1 HU hv
      by_cases hz : s = 0
      · subst hz
        have R := Lib.hid (HA.out (by rw [HM.out]; rfl))
        clear HA HN HM HP HAN hd
        go_wp2
        go_round
        case rel => exact ⟨j + 1, by omega, by go_num, R⟩
        case measure => simp [intOf]; omega
      · have hz' : (s != 0) = true := by simp [hz]
        have hz2 : (s == 0) = false := by simp [hz]
        obtain ⟨u, hu⟩ : ∃ u, s / 2 ^ q = u := ⟨_, rfl⟩
        rw [hu] at hd HP HAN
        clear hz
        by_cases hb : u % 2 = 1
        · have R := Lib.hid (HA.out (by rw [HM.out, HP.out, decide_eq_true hb]; simp))
          have hA := HAN.out
          rw [hb] at hA
          clear hb HA HN HM HP HAN hz2
          go_wp2
          go_round
          case rel => exact ⟨j + 1, by omega, by go_num, R⟩
          case measure => simp [intOf]; omega
        · have R := Lib.hid (HN.out (by rw [HM.out, HP.out, decide_eq_false hb, hz2]; rfl))
          have hb0 : u % 2 = 0 := by omega
          have hA := HAN.out
          rw [hb0] at hA
          clear hb hb0 HA HN HM HP HAN hz2
          go_wp2
          go_ret
          exact ⟨ret_bool R.out, HB.out⟩
    · obtain rfl : j = k := by omega
      have R := Lib.hid (show true = meetB t.wh xs by unfold meetB; rw [hl.out]; exact hf.out.symm)
      clear HU hv
      go_wp2
      go_ret
      exact ⟨ret_bool R.out, HB.out⟩
end Go.Proofs.YtfanpbfmnckmnaaGreat
