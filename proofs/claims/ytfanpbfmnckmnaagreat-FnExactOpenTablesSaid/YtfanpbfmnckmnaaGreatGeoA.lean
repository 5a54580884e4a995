/- Geographies: the tests, depths, levels, ancestors, leaves, of the program and of the reference; printed by gge.py. -/
import Derived.Test.YtfanpbfmnckmnaaGreatGeoP
namespace Go.Proofs.YtfanpbfmnckmnaaGreat
open Go.RowKit

set_option maxRecDepth 100000 in
set_option maxHeartbeats 2000000 in
theorem depthOf_any (P : Option Addr) (n c : Nat) (ps : List Int) (i0 : Nat) (w : World) (hx : IntR w P n ps) (hg : GeoOk ps n) (hi : i0 < n) :
    Calls Tryz.prog 206 #[.agg #[.slice P n c], .int .i64 i0] w fun e w' => e = .returned (.int .i64 (dep ps i0)) ∧ Below w.heap.size w w' := by
  have b0 := below_new w (.cells #[.slice P n c] 36)
  have x0 := box_new w #[.slice P n c] 36
  have hX := hx.below b0
  have c0 := box_cell x0 0 _ rfl
  have l0 := lt_of_block x0
  have HB := Lib.hid b0
  have HG := Lib.hid hg
  have hn30 := hg.most
  clear x0 hx b0 hg
  go_enter Tryz.func206, Tryz.ntmps206
  go_wp2
  go_loop [1, 5] (fun i d => ∃ k dd : Nat, k < n ∧ i = .int .i64 k ∧ d = .int .i64 dd ∧ Hid (dd + dep ps k = dep ps i0)) (fun i _ => (intOf i).toNat)
  case atStart => exact ⟨i0, 0, hi, rfl, rfl, Lib.hid (Nat.zero_add _)⟩
  case round =>
    obtain ⟨k, dd, hk, rfl, rfl, hd⟩ := hrel
    have hdl : dd ≤ 30 := by have h1 := hd.out; have h2 := dep_le HG.out i0 hi; omega
    obtain ⟨ad, rfl, hc⟩ := hX.i.at_ hk
    by_cases h0 : 0 < k
    · have hpe := HG.out.par_eq h0 hk
      have hds := dep_step HG.out h0 hk
      have hpl := HG.out.par_lt h0 hk
      have HD := Lib.hid (show dd + 1 + dep ps (par ps k) = dep ps i0 by have := hd.out; omega)
      rw [show ps[k]?.getD 0 = ((par ps k : Nat) : Int) from hpe] at hc
      clear hd hpe hds hX
      generalize par ps k = m at *
      go_wp2
      go_round
      case rel => exact ⟨m, dd + 1, by omega, rfl, by go_num, HD⟩
      case measure => simp [intOf]; omega
    · obtain rfl : k = 0 := by omega
      have hdd : dd = dep ps i0 := by have := hd.out; rw [dep_zero] at this; omega
      have HD := Lib.hid hdd
      rw [show ps[0]?.getD 0 = (-1 : Int) from HG.out.root] at hc
      have hc0 := hc
      rw [show ad.add 0 = ad by unfold Addr.add; simp] at hc0
      clear hd hdd hX
      go_wp2
      go_ret
      exact ⟨congrArg (fun q : Nat => Ending.returned (.int .i64 (q : Int))) HD.out, HB.out⟩

set_option maxRecDepth 100000 in
set_option maxHeartbeats 2000000 in
theorem gDepth_any (P : Option Addr) (n c : Nat) (ps : List Int) (i0 : Nat) (w : World) (hx : IntR w P n ps) (hg : GeoOk ps n) (hi : i0 < n) :
    Calls Tryz.prog 175 #[.agg #[.slice P n c], .int .i64 i0] w fun e w' => e = .returned (.int .i64 (dep ps i0)) ∧ Below w.heap.size w w' := by
  have b0 := below_new w (.cells #[.slice P n c] 36)
  have x0 := box_new w #[.slice P n c] 36
  have hX := hx.below b0
  have c0 := box_cell x0 0 _ rfl
  have l0 := lt_of_block x0
  have HB := Lib.hid b0
  have HG := Lib.hid hg
  have hn30 := hg.most
  clear x0 hx b0 hg
  go_enter Tryz.func175, Tryz.ntmps175
  go_wp2
  go_loop [1, 5] (fun i d => ∃ k dd : Nat, k < n ∧ i = .int .i64 k ∧ d = .int .i64 dd ∧ Hid (dd + dep ps k = dep ps i0)) (fun i _ => (intOf i).toNat)
  case atStart => exact ⟨i0, 0, hi, rfl, rfl, Lib.hid (Nat.zero_add _)⟩
  case round =>
    obtain ⟨k, dd, hk, rfl, rfl, hd⟩ := hrel
    have hdl : dd ≤ 30 := by have h1 := hd.out; have h2 := dep_le HG.out i0 hi; omega
    obtain ⟨ad, rfl, hc⟩ := hX.i.at_ hk
    by_cases h0 : 0 < k
    · have hpe := HG.out.par_eq h0 hk
      have hds := dep_step HG.out h0 hk
      have hpl := HG.out.par_lt h0 hk
      have HD := Lib.hid (show dd + 1 + dep ps (par ps k) = dep ps i0 by have := hd.out; omega)
      rw [show ps[k]?.getD 0 = ((par ps k : Nat) : Int) from hpe] at hc
      clear hd hpe hds hX
      generalize par ps k = m at *
      go_wp2
      go_round
      case rel => exact ⟨m, dd + 1, by omega, rfl, by go_num, HD⟩
      case measure => simp [intOf]; omega
    · obtain rfl : k = 0 := by omega
      have hdd : dd = dep ps i0 := by have := hd.out; rw [dep_zero] at this; omega
      have HD := Lib.hid hdd
      rw [show ps[0]?.getD 0 = (-1 : Int) from HG.out.root] at hc
      have hc0 := hc
      rw [show ad.add 0 = ad by unfold Addr.add; simp] at hc0
      clear hd hdd hX
      go_wp2
      go_ret
      exact ⟨congrArg (fun q : Nat => Ending.returned (.int .i64 (q : Int))) HD.out, HB.out⟩

set_option maxRecDepth 100000 in
set_option maxHeartbeats 2000000 in
theorem areasAt_any (P : Option Addr) (n c : Nat) (ps : List Int) (v : Int) (w : World) (hx : IntR w P n ps) (hg : GeoOk ps n) :
    Calls Tryz.prog 181 #[.agg #[.slice P n c], .int .i64 v] w fun e w' => ∃ A' c', e = .returned (.slice A' (lvl ps v n).length c') ∧ Own w' w.heap.size A' (lvl ps v n).length c' (lvl ps v n) ∧ Below w.heap.size w w' := by
  have b0 := below_new w (.cells #[.slice P n c] 36)
  have x0 := box_new w #[.slice P n c] 36
  have hX := hx.below b0
  have c0 := box_cell x0 0 _ rfl
  have l0 := lt_of_block x0
  have HB := Lib.hid b0
  have HG := Lib.hid hg
  have hn30 := hg.most
  go_enter Tryz.func181, Tryz.ntmps181
  go_wp2
  generalize w.alloc (.cells #[.slice P n c] 36) = w0 at *
  have X0 := Lib.hid x0
  have s0w := l0
  clear c0 l0 hx b0 hg x0
  go_loopw [5, 10] (fun a i wr => ∃ (k m : Nat) (B : Option Addr) (c2 : Nat), k ≤ n ∧ i = .int .i64 k ∧ a = .slice B m c2 ∧ m ≤ k ∧ Hid ((lvl ps v k).length = m) ∧ Own wr w0.heap.size B m c2 (lvl ps v k) ∧ Hid (wr.heap[w.heap.size]? = some (.cells #[.slice P n c] 36 (0, 0))) ∧ Below w0.heap.size w0 wr) (fun _ i _ => n - (intOf i).toNat)
  case atStart => exact ⟨0, 0, none, 0, Nat.zero_le _, rfl, rfl, Nat.le_refl _, Lib.hid rfl, Own.nil_, X0, Below.refl _ _⟩
  case round =>
    clear X0
    obtain ⟨k, m, B, c2, hk, rfl, rfl, hmk, hm, hown, X0, hbw⟩ := hrel
    have hsz := hbw.size
    have s0 := HB.out.size
    by_cases hlt : k < n
    · have c0 := box_cell X0.out 0 _ rfl
      have l0 := lt_of_block X0.out
      go_wp2_with fail
      refine (depthOf_any P n c ps k _ (hX.below hbw) HG.out hlt).mono ?_
      rintro e w5 ⟨rfl, b5⟩
      have x5 := box_below X0.out b5
      have hown5 := hown.below b5
      have hb5 := hbw.trans (b5.mono hsz)
      have s5 := b5.size
      have hsz5 := hb5.size
      clear c0 l0 X0 hown hbw b5
      have c0 := box_cell x5 0 _ rfl
      have l0 := lt_of_block x5
      have HX5 := Lib.hid x5
      clear x5
      by_cases hd : (dep ps k : Int) = v
      · have HL := Lib.hid (lvl_yes hd)
        have hq : ((dep ps k : Int) == v) = true := by simpa using hd
        clear hd
        have HM := Lib.hid (show (lvl ps v (k + 1)).length = m + 1 by rw [HL.out, List.length_append, hm.out]; rfl)
        generalize lvl ps v k = K0 at *
        generalize dep ps k = dk at *
        go_wp2_with (at_builtin; refine wp_app1 (v := (k : Int)) rfl _ _ rfl w0.heap.size B m c2 K0 rfl hown5 _ rfl rfl (by omega) hsz5 ?_; intro A3 c3 w6 hown6 hg6 _)
        have hb6 := below_write hb5 hg6 hsz5 (fun k hk => (hown5.row_ge k hk).1)
        have hrow := Lib.hid (fun k hk => (hown5.row_ge k hk).1)
        have x6 := (hg6.block _ (lt_of_block HX5.out) (fun e => by have := hrow.out _ e.symm; omega)).trans HX5.out
        have X6 := Lib.hid x6
        have HO := Lib.hid hown6
        have HB6 := Lib.hid hb6
        clear hown5 hb5 hg6 hown6 hb6 x6 c0 l0 hq
        go_wp2
        go_roundw
        case rel => exact ⟨k + 1, m + 1, A3, c3, by omega, by go_num, rfl, by omega, HM, by rw [HL.out]; exact HO.out, X6, HB6.out⟩
        case measure => simp [intOf]; omega
      · have HL := Lib.hid (lvl_no hd)
        have hq : ((dep ps k : Int) == v) = false := by simpa using hd
        clear hd
        have HM := Lib.hid (show (lvl ps v (k + 1)).length = m by rw [HL.out, hm.out])
        generalize dep ps k = dk at *
        go_wp2
        go_roundw
        case rel => exact ⟨k + 1, m, B, c2, by omega, by go_num, rfl, by omega, HM, by rw [HL.out]; exact hown5, HX5, hb5⟩
        case measure => simp [intOf]; omega
    · obtain rfl : k = n := by omega
      have HO := Lib.hid hown
      have HW := Lib.hid hbw
      clear hown hbw
      go_wp2
      go_ret
      exact ⟨B, c2, congrArg (fun q => Ending.returned (.slice B q c2)) hm.out.symm, by rw [hm.out]; exact HO.out.mono s0, HB.out.trans (HW.out.mono s0)⟩

set_option maxRecDepth 100000 in
set_option maxHeartbeats 2000000 in
theorem gLevel_any (P : Option Addr) (n c : Nat) (ps : List Int) (v : Int) (w : World) (hx : IntR w P n ps) (hg : GeoOk ps n) :
    Calls Tryz.prog 130 #[.agg #[.slice P n c], .int .i64 v] w fun e w' => ∃ A' c', e = .returned (.slice A' (lvl ps v n).length c') ∧ Own w' w.heap.size A' (lvl ps v n).length c' (lvl ps v n) ∧ Below w.heap.size w w' := by
  have b0 := below_new w (.cells #[.slice P n c] 36)
  have x0 := box_new w #[.slice P n c] 36
  have hX := hx.below b0
  have c0 := box_cell x0 0 _ rfl
  have l0 := lt_of_block x0
  have HB := Lib.hid b0
  have HG := Lib.hid hg
  have hn30 := hg.most
  go_enter Tryz.func130, Tryz.ntmps130
  go_wp2
  generalize w.alloc (.cells #[.slice P n c] 36) = w0 at *
  have X0 := Lib.hid x0
  have s0w := l0
  clear c0 l0 hx b0 hg x0
  go_loopw [5, 10] (fun a i wr => ∃ (k m : Nat) (B : Option Addr) (c2 : Nat), k ≤ n ∧ i = .int .i64 k ∧ a = .slice B m c2 ∧ m ≤ k ∧ Hid ((lvl ps v k).length = m) ∧ Own wr w0.heap.size B m c2 (lvl ps v k) ∧ Hid (wr.heap[w.heap.size]? = some (.cells #[.slice P n c] 36 (0, 0))) ∧ Below w0.heap.size w0 wr) (fun _ i _ => n - (intOf i).toNat)
  case atStart => exact ⟨0, 0, none, 0, Nat.zero_le _, rfl, rfl, Nat.le_refl _, Lib.hid rfl, Own.nil_, X0, Below.refl _ _⟩
  case round =>
    clear X0
    obtain ⟨k, m, B, c2, hk, rfl, rfl, hmk, hm, hown, X0, hbw⟩ := hrel
    have hsz := hbw.size
    have s0 := HB.out.size
    by_cases hlt : k < n
    · have c0 := box_cell X0.out 0 _ rfl
      have l0 := lt_of_block X0.out
      go_wp2_with fail
      refine (gDepth_any P n c ps k _ (hX.below hbw) HG.out hlt).mono ?_
      rintro e w5 ⟨rfl, b5⟩
      have x5 := box_below X0.out b5
      have hown5 := hown.below b5
      have hb5 := hbw.trans (b5.mono hsz)
      have s5 := b5.size
      have hsz5 := hb5.size
      clear c0 l0 X0 hown hbw b5
      have c0 := box_cell x5 0 _ rfl
      have l0 := lt_of_block x5
      have HX5 := Lib.hid x5
      clear x5
      by_cases hd : (dep ps k : Int) = v
      · have HL := Lib.hid (lvl_yes hd)
        have hq : ((dep ps k : Int) == v) = true := by simpa using hd
        clear hd
        have HM := Lib.hid (show (lvl ps v (k + 1)).length = m + 1 by rw [HL.out, List.length_append, hm.out]; rfl)
        generalize lvl ps v k = K0 at *
        generalize dep ps k = dk at *
        go_wp2_with (at_builtin; refine wp_app1 (v := (k : Int)) rfl _ _ rfl w0.heap.size B m c2 K0 rfl hown5 _ rfl rfl (by omega) hsz5 ?_; intro A3 c3 w6 hown6 hg6 _)
        have hb6 := below_write hb5 hg6 hsz5 (fun k hk => (hown5.row_ge k hk).1)
        have hrow := Lib.hid (fun k hk => (hown5.row_ge k hk).1)
        have x6 := (hg6.block _ (lt_of_block HX5.out) (fun e => by have := hrow.out _ e.symm; omega)).trans HX5.out
        have X6 := Lib.hid x6
        have HO := Lib.hid hown6
        have HB6 := Lib.hid hb6
        clear hown5 hb5 hg6 hown6 hb6 x6 c0 l0 hq
        go_wp2
        go_roundw
        case rel => exact ⟨k + 1, m + 1, A3, c3, by omega, by go_num, rfl, by omega, HM, by rw [HL.out]; exact HO.out, X6, HB6.out⟩
        case measure => simp [intOf]; omega
      · have HL := Lib.hid (lvl_no hd)
        have hq : ((dep ps k : Int) == v) = false := by simpa using hd
        clear hd
        have HM := Lib.hid (show (lvl ps v (k + 1)).length = m by rw [HL.out, hm.out])
        generalize dep ps k = dk at *
        go_wp2
        go_roundw
        case rel => exact ⟨k + 1, m, B, c2, by omega, by go_num, rfl, by omega, HM, by rw [HL.out]; exact hown5, HX5, hb5⟩
        case measure => simp [intOf]; omega
    · obtain rfl : k = n := by omega
      have HO := Lib.hid hown
      have HW := Lib.hid hbw
      clear hown hbw
      go_wp2
      go_ret
      exact ⟨B, c2, congrArg (fun q => Ending.returned (.slice B q c2)) hm.out.symm, by rw [hm.out]; exact HO.out.mono s0, HB.out.trans (HW.out.mono s0)⟩

set_option maxRecDepth 100000 in
set_option maxHeartbeats 2000000 in
theorem ancestorAt_any (P : Option Addr) (n c : Nat) (ps : List Int) (i0 : Nat) (v : Int) (w : World) (hx : IntR w P n ps) (hg : GeoOk ps n) (hi : i0 < n) :
    Calls Tryz.prog 191 #[.agg #[.slice P n c], .int .i64 i0, .int .i64 v] w fun e w' => e = .returned (.int .i64 (anc ps i0 v)) ∧ Below w.heap.size w w' := by
  have b0 := below_new w (.cells #[.slice P n c] 36)
  have x0 := box_new w #[.slice P n c] 36
  have hX := hx.below b0
  have c0 := box_cell x0 0 _ rfl
  have l0 := lt_of_block x0
  have HB := Lib.hid b0
  have HG := Lib.hid hg
  have hn30 := hg.most
  have hd30 := dep_le hg i0 hi
  clear hx b0 hg
  by_cases hv : v < 0
  · have R := Lib.hid (anc_no (ps := ps) (i := i0) (.inl hv))
    rw [R.out]
    go_enter Tryz.func191, Tryz.ntmps191
    go_wp2_with fail
    generalize w.alloc (.cells #[.slice P n c] 36) = w0 at *
    refine (depthOf_any P n c ps i0 _ hX HG.out hi).mono ?_
    rintro e w1 ⟨rfl, b1⟩
    have HB1 := Lib.hid (HB.out.trans (b1.mono HB.out.size))
    have x1 := box_below x0 b1
    have hX1 := hX.below b1
    clear c0 l0 x0 hX b1
    have c0 := box_cell x1 0 _ rfl
    have l0 := lt_of_block x1
    clear x1
    obtain ⟨D, hD⟩ : ∃ D, dep ps i0 = D := ⟨_, rfl⟩
    have HD := Lib.hid hD
    rw [hD]
    clear hD
    go_wp2
    go_ret
    exact ⟨rfl, HB1.out⟩
  obtain ⟨V, rfl⟩ := Int.eq_ofNat_of_zero_le (show 0 ≤ v by omega)
  by_cases hdv : dep ps i0 < V
  · have R := Lib.hid (anc_no (ps := ps) (i := i0) (v := (V : Int)) (.inr (by omega)))
    rw [R.out]
    go_enter Tryz.func191, Tryz.ntmps191
    go_wp2_with fail
    generalize w.alloc (.cells #[.slice P n c] 36) = w0 at *
    refine (depthOf_any P n c ps i0 _ hX HG.out hi).mono ?_
    rintro e w1 ⟨rfl, b1⟩
    have HB1 := Lib.hid (HB.out.trans (b1.mono HB.out.size))
    have x1 := box_below x0 b1
    have hX1 := hX.below b1
    clear c0 l0 x0 hX b1
    have c0 := box_cell x1 0 _ rfl
    have l0 := lt_of_block x1
    clear x1
    obtain ⟨D, hD⟩ : ∃ D, dep ps i0 = D := ⟨_, rfl⟩
    have HD := Lib.hid hD
    rw [hD]
    clear hD
    rw [HD.out] at hdv
    go_wp2
    go_ret
    exact ⟨rfl, HB1.out⟩
  have R := Lib.hid (anc_yes (ps := ps) (i := i0) (v := V) (by omega))
  rw [R.out]
  go_enter Tryz.func191, Tryz.ntmps191
  go_wp2_with fail
  generalize w.alloc (.cells #[.slice P n c] 36) = w0 at *
  refine (depthOf_any P n c ps i0 _ hX HG.out hi).mono ?_
  rintro e w1 ⟨rfl, b1⟩
  have HB1 := Lib.hid (HB.out.trans (b1.mono HB.out.size))
  have x1 := box_below x0 b1
  have hX1 := hX.below b1
  clear c0 l0 x0 hX b1
  have c0 := box_cell x1 0 _ rfl
  have l0 := lt_of_block x1
  clear x1
  obtain ⟨D, hD⟩ : ∃ D, dep ps i0 = D := ⟨_, rfl⟩
  have HD := Lib.hid hD
  rw [hD] at hdv hd30 ⊢
  clear hD
  have hr := R
  rw [HD.out] at hr
  have HI := Lib.hid hi
  go_wp2
  go_loop [1, 7] (fun i d => ∃ k dd : Nat, k < n ∧ V ≤ dd ∧ dd ≤ 30 ∧ i = .int .i64 k ∧ d = .int .i64 dd ∧ Hid (dep ps k = dd) ∧ Hid (upN ps k (dd - V) = upN ps i0 (D - V))) (fun _ d => (intOf d).toNat)
  case atStart => exact ⟨i0, D, hi, by omega, by omega, rfl, rfl, HD, Lib.hid rfl⟩
  case round =>
    obtain ⟨k, dd, hk, hVd, hdd, rfl, rfl, hdk, hu⟩ := hrel
    by_cases hlt : V < dd
    · have h0 : 0 < k := by
        rcases Nat.eq_zero_or_pos k with rfl | h0
        · have := hdk.out; rw [dep_zero] at this; omega
        · exact h0
      obtain ⟨ad, rfl, hc⟩ := hX1.i.at_ hk
      have hpe := HG.out.par_eq h0 hk
      have hds := dep_step HG.out h0 hk
      have hpl := HG.out.par_lt h0 hk
      obtain ⟨d1, rfl⟩ : ∃ d1, dd = d1 + 1 := ⟨dd - 1, by omega⟩
      have HK := Lib.hid (show dep ps (par ps k) = d1 by have := hdk.out; omega)
      have HU := Lib.hid (show upN ps (par ps k) (d1 - V) = upN ps i0 (D - V) by have := hu.out; rw [show d1 + 1 - V = (d1 - V) + 1 by omega] at this; exact this)
      rw [show ps[k]?.getD 0 = ((par ps k : Nat) : Int) from hpe] at hc
      clear hu hdk hpe hds hX1
      generalize par ps k = m at *
      go_wp2
      go_round
      case rel => exact ⟨m, d1, by omega, by omega, by omega, rfl, by go_num, HK, HU⟩
      case measure => simp [intOf]
    · obtain rfl : dd = V := by omega
      have HE := Lib.hid (show k = upN ps i0 (D - dd) by have := hu.out; rw [Nat.sub_self] at this; exact this)
      clear hu hX1
      go_wp2
      go_ret
      exact ⟨congrArg (fun q : Nat => Ending.returned (.int .i64 (q : Int))) (by rw [HD.out]; exact HE.out), HB1.out⟩

set_option maxRecDepth 100000 in
set_option maxHeartbeats 2000000 in
theorem gUp_any (P : Option Addr) (n c : Nat) (ps : List Int) (i0 : Nat) (v : Int) (w : World) (hx : IntR w P n ps) (hg : GeoOk ps n) (hi : i0 < n) :
    Calls Tryz.prog 201 #[.agg #[.slice P n c], .int .i64 i0, .int .i64 v] w fun e w' => e = .returned (.int .i64 (anc ps i0 v)) ∧ Below w.heap.size w w' := by
  have b0 := below_new w (.cells #[.slice P n c] 36)
  have x0 := box_new w #[.slice P n c] 36
  have hX := hx.below b0
  have c0 := box_cell x0 0 _ rfl
  have l0 := lt_of_block x0
  have HB := Lib.hid b0
  have HG := Lib.hid hg
  have hn30 := hg.most
  have hd30 := dep_le hg i0 hi
  clear hx b0 hg
  by_cases hv : v < 0
  · have R := Lib.hid (anc_no (ps := ps) (i := i0) (.inl hv))
    rw [R.out]
    go_enter Tryz.func201, Tryz.ntmps201
    go_wp2_with fail
    generalize w.alloc (.cells #[.slice P n c] 36) = w0 at *
    refine (gDepth_any P n c ps i0 _ hX HG.out hi).mono ?_
    rintro e w1 ⟨rfl, b1⟩
    have HB1 := Lib.hid (HB.out.trans (b1.mono HB.out.size))
    have x1 := box_below x0 b1
    have hX1 := hX.below b1
    clear c0 l0 x0 hX b1
    have c0 := box_cell x1 0 _ rfl
    have l0 := lt_of_block x1
    clear x1
    obtain ⟨D, hD⟩ : ∃ D, dep ps i0 = D := ⟨_, rfl⟩
    have HD := Lib.hid hD
    rw [hD]
    clear hD
    go_wp2
    go_ret
    exact ⟨rfl, HB1.out⟩
  obtain ⟨V, rfl⟩ := Int.eq_ofNat_of_zero_le (show 0 ≤ v by omega)
  by_cases hdv : dep ps i0 < V
  · have R := Lib.hid (anc_no (ps := ps) (i := i0) (v := (V : Int)) (.inr (by omega)))
    rw [R.out]
    go_enter Tryz.func201, Tryz.ntmps201
    go_wp2_with fail
    generalize w.alloc (.cells #[.slice P n c] 36) = w0 at *
    refine (gDepth_any P n c ps i0 _ hX HG.out hi).mono ?_
    rintro e w1 ⟨rfl, b1⟩
    have HB1 := Lib.hid (HB.out.trans (b1.mono HB.out.size))
    have x1 := box_below x0 b1
    have hX1 := hX.below b1
    clear c0 l0 x0 hX b1
    have c0 := box_cell x1 0 _ rfl
    have l0 := lt_of_block x1
    clear x1
    obtain ⟨D, hD⟩ : ∃ D, dep ps i0 = D := ⟨_, rfl⟩
    have HD := Lib.hid hD
    rw [hD]
    clear hD
    rw [HD.out] at hdv
    rw [HD.out] at hd30
    go_wp2
    go_loop [1, 7] (fun i d => i = .int .i64 i0 ∧ d = .int .i64 D) (fun _ _ => 0)
    case atStart => exact ⟨rfl, rfl⟩
    case round =>
      obtain ⟨rfl, rfl⟩ := hrel
      go_wp2
      go_ret
      exact ⟨rfl, HB1.out⟩
  have R := Lib.hid (anc_yes (ps := ps) (i := i0) (v := V) (by omega))
  rw [R.out]
  go_enter Tryz.func201, Tryz.ntmps201
  go_wp2_with fail
  generalize w.alloc (.cells #[.slice P n c] 36) = w0 at *
  refine (gDepth_any P n c ps i0 _ hX HG.out hi).mono ?_
  rintro e w1 ⟨rfl, b1⟩
  have HB1 := Lib.hid (HB.out.trans (b1.mono HB.out.size))
  have x1 := box_below x0 b1
  have hX1 := hX.below b1
  clear c0 l0 x0 hX b1
  have c0 := box_cell x1 0 _ rfl
  have l0 := lt_of_block x1
  clear x1
  obtain ⟨D, hD⟩ : ∃ D, dep ps i0 = D := ⟨_, rfl⟩
  have HD := Lib.hid hD
  rw [hD] at hdv hd30 ⊢
  clear hD
  have hr := R
  rw [HD.out] at hr
  have HI := Lib.hid hi
  go_wp2
  go_loop [1, 7] (fun i d => ∃ k dd : Nat, k < n ∧ V ≤ dd ∧ dd ≤ 30 ∧ i = .int .i64 k ∧ d = .int .i64 dd ∧ Hid (dep ps k = dd) ∧ Hid (upN ps k (dd - V) = upN ps i0 (D - V))) (fun _ d => (intOf d).toNat)
  case atStart => exact ⟨i0, D, hi, by omega, by omega, rfl, rfl, HD, Lib.hid rfl⟩
  case round =>
    obtain ⟨k, dd, hk, hVd, hdd, rfl, rfl, hdk, hu⟩ := hrel
    by_cases hlt : V < dd
    · have h0 : 0 < k := by
        rcases Nat.eq_zero_or_pos k with rfl | h0
        · have := hdk.out; rw [dep_zero] at this; omega
        · exact h0
      obtain ⟨ad, rfl, hc⟩ := hX1.i.at_ hk
      have hpe := HG.out.par_eq h0 hk
      have hds := dep_step HG.out h0 hk
      have hpl := HG.out.par_lt h0 hk
      obtain ⟨d1, rfl⟩ : ∃ d1, dd = d1 + 1 := ⟨dd - 1, by omega⟩
      have HK := Lib.hid (show dep ps (par ps k) = d1 by have := hdk.out; omega)
      have HU := Lib.hid (show upN ps (par ps k) (d1 - V) = upN ps i0 (D - V) by have := hu.out; rw [show d1 + 1 - V = (d1 - V) + 1 by omega] at this; exact this)
      rw [show ps[k]?.getD 0 = ((par ps k : Nat) : Int) from hpe] at hc
      clear hu hdk hpe hds hX1
      generalize par ps k = m at *
      go_wp2
      go_round
      case rel => exact ⟨m, d1, by omega, by omega, by omega, rfl, by go_num, HK, HU⟩
      case measure => simp [intOf]
    · obtain rfl : dd = V := by omega
      have HE := Lib.hid (show k = upN ps i0 (D - dd) by have := hu.out; rw [Nat.sub_self] at this; exact this)
      clear hu hX1
      go_wp2
      go_ret
      exact ⟨congrArg (fun q : Nat => Ending.returned (.int .i64 (q : Int))) (by rw [HD.out]; exact HE.out), HB1.out⟩
end Go.Proofs.YtfanpbfmnckmnaaGreat
