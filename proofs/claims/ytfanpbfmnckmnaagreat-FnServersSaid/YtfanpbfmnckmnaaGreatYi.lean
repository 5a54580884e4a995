/- Several small texts in one: GeoA, GeoB. -/
import Derived.Test.YtfanpbfmnckmnaaGreatYe
namespace Go.Proofs.YtfanpbfmnckmnaaGreat

section
open Go.RowKit

set_option maxRecDepth 100000 in
set_option maxHeartbeats 2000000 in
theorem depthOf_any (P : Option Addr) (n c : Nat) (ps : List Int) (i0 : Nat) (w : World) (hx : IntR w P n ps) (hg : GeoOk ps n) (hi : i0 < n) :
    Calls Tryz.prog 206 #[.agg #[.slice P n c], .int .i64 i0] w fun e w' => e = .returned (.int .i64 (dep ps i0)) ∧ Below w.heap.size w w' := by
  have b0 := below_new w (.cells #[.slice P n c] 36)
  have x0 := box_new w #[.slice P n c] 36
  have hX := hx.below b0
  have c0 := bxc x0 0 _ rfl
  have l0 := lt_of_block x0
  have HB := Lib.hid b0
  have HG := Lib.hid hg
  have hn30 := hg.most
  clear x0 hx b0 hg
  go_enter Tryz.func206, Tryz.ntmps206
  go_wp2
  go_loop [1, 5] (fun i d => ∃ k dd : Nat, k < n ∧ i = .int .i64 k ∧ d = .int .i64 dd ∧ Hid (dd + dep ps k = dep ps i0)) (fun i _ => (intOf i).toNat)
  case atStart => exact ⟨i0, 0, hi, rfl, rfl, Lib.hid (Nat.zero_add _)⟩
  case round =>
    obtain ⟨k, dd, hk, rfl, rfl, hd⟩ := hrel
    have hdl : dd ≤ 30 := by have h1 := hd.out; have h2 := dep_le HG.out i0 hi; omega
    obtain ⟨ad, rfl, hc⟩ := hX.i.at_ hk
    by_cases h0 : 0 < k
    · have hpe := HG.out.par_eq h0 hk
      have hds := dep_step HG.out h0 hk
      have hpl := HG.out.par_lt h0 hk
      have HD := Lib.hid (show dd + 1 + dep ps (par ps k) = dep ps i0 by have := hd.out; omega)
      rw [show ps[k]?.getD 0 = ((par ps k : Nat) : Int) from hpe] at hc
      clear hd hpe hds hX
      generalize par ps k = m at *
      go_wp2
      go_round
      case rel => exact ⟨m, dd + 1, by omega, rfl, by go_num, HD⟩
      case measure => simp [intOf]; omega
    · obtain rfl : k = 0 := by omega
      have hdd : dd = dep ps i0 := by have := hd.out; rw [dep_zero] at this; omega
      have HD := Lib.hid hdd
      rw [show ps[0]?.getD 0 = (-1 : Int) from HG.out.root] at hc
      have hc0 := hc
      rw [show ad.add 0 = ad by unfold Addr.add; simp] at hc0
      clear hd hdd hX
      go_wp2
      go_ret
      exact ⟨congrArg (fun q : Nat => Ending.returned (.int .i64 (q : Int))) HD.out, HB.out⟩

set_option maxRecDepth 100000 in
set_option maxHeartbeats 2000000 in
theorem gDepth_any (P : Option Addr) (n c : Nat) (ps : List Int) (i0 : Nat) (w : World) (hx : IntR w P n ps) (hg : GeoOk ps n) (hi : i0 < n) :
    Calls Tryz.prog 175 #[.agg #[.slice P n c], .int .i64 i0] w fun e w' => e = .returned (.int .i64 (dep ps i0)) ∧ Below w.heap.size w w' := by
  have b0 := below_new w (.cells #[.slice P n c] 36)
  have x0 := box_new w #[.slice P n c] 36
  have hX := hx.below b0
  have c0 := bxc x0 0 _ rfl
  have l0 := lt_of_block x0
  have HB := Lib.hid b0
  have HG := Lib.hid hg
  have hn30 := hg.most
  clear x0 hx b0 hg
  go_enter Tryz.func175, Tryz.ntmps175
  go_wp2
  go_loop [1, 5] (fun i d => ∃ k dd : Nat, k < n ∧ i = .int .i64 k ∧ d = .int .i64 dd ∧ Hid (dd + dep ps k = dep ps i0)) (fun i _ => (intOf i).toNat)
  case atStart => exact ⟨i0, 0, hi, rfl, rfl, Lib.hid (Nat.zero_add _)⟩
  case round =>
    obtain ⟨k, dd, hk, rfl, rfl, hd⟩ := hrel
    have hdl : dd ≤ 30 := by have h1 := hd.out; have h2 := dep_le HG.out i0 hi; omega
    obtain ⟨ad, rfl, hc⟩ := hX.i.at_ hk
    by_cases h0 : 0 < k
    · have hpe := HG.out.par_eq h0 hk
      have hds := dep_step HG.out h0 hk
      have hpl := HG.out.par_lt h0 hk
      have HD := Lib.hid (show dd + 1 + dep ps (par ps k) = dep ps i0 by have := hd.out; omega)
      rw [show ps[k]?.getD 0 = ((par ps k : Nat) : Int) from hpe] at hc
      clear hd hpe hds hX
      generalize par ps k = m at *
      go_wp2
      go_round
      case rel => exact ⟨m, dd + 1, by omega, rfl, by go_num, HD⟩
      case measure => simp [intOf]; omega
    · obtain rfl : k = 0 := by omega
      have hdd : dd = dep ps i0 := by have := hd.out; rw [dep_zero] at this; omega
      have HD := Lib.hid hdd
      rw [show ps[0]?.getD 0 = (-1 : Int) from HG.out.root] at hc
      have hc0 := hc
      rw [show ad.add 0 = ad by unfold Addr.add; simp] at hc0
      clear hd hdd hX
      go_wp2
      go_ret
      exact ⟨congrArg (fun q : Nat => Ending.returned (.int .i64 (q : Int))) HD.out, HB.out⟩

set_option maxRecDepth 100000 in
set_option maxHeartbeats 2000000 in
theorem areasAt_any (P : Option Addr) (n c : Nat) (ps : List Int) (v : Int) (w : World) (hx : IntR w P n ps) (hg : GeoOk ps n) :
    Calls Tryz.prog 181 #[.agg #[.slice P n c], .int .i64 v] w fun e w' => ∃ A' c', e = .returned (.slice A' (lvl ps v n).length c') ∧ Own w' w.heap.size A' (lvl ps v n).length c' (lvl ps v n) ∧ Below w.heap.size w w' := by
  have b0 := below_new w (.cells #[.slice P n c] 36)
  have x0 := box_new w #[.slice P n c] 36
  have hX := hx.below b0
  have c0 := bxc x0 0 _ rfl
  have l0 := lt_of_block x0
  have HB := Lib.hid b0
  have HG := Lib.hid hg
  have hn30 := hg.most
  go_enter Tryz.func181, Tryz.ntmps181
  go_wp2
  generalize w.alloc (.cells #[.slice P n c] 36) = w0 at *
  have X0 := Lib.hid x0
  have s0w := l0
  clear c0 l0 hx b0 hg x0
  go_loopw [5, 10] (fun a i wr => ∃ (k m : Nat) (B : Option Addr) (c2 : Nat), k ≤ n ∧ i = .int .i64 k ∧ a = .slice B m c2 ∧ m ≤ k ∧ Hid ((lvl ps v k).length = m) ∧ Own wr w0.heap.size B m c2 (lvl ps v k) ∧ Hid (wr.heap[w.heap.size]? = some (.cells #[.slice P n c] 36 (0, 0))) ∧ Below w0.heap.size w0 wr) (fun _ i _ => n - (intOf i).toNat)
  case atStart => exact ⟨0, 0, none, 0, Nat.zero_le _, rfl, rfl, Nat.le_refl _, Lib.hid rfl, Own.nil_, X0, Below.refl _ _⟩
  case round =>
    clear X0
    obtain ⟨k, m, B, c2, hk, rfl, rfl, hmk, hm, hown, X0, hbw⟩ := hrel
    have hsz := hbw.size
    have s0 := HB.out.size
    by_cases hlt : k < n
    · have c0 := bxc X0.out 0 _ rfl
      have l0 := lt_of_block X0.out
      go_wp2_with fail
      refine (depthOf_any P n c ps k _ (hX.below hbw) HG.out hlt).mono ?_
      rintro e w5 ⟨rfl, b5⟩
      have x5 := bxb X0.out b5
      have hown5 := hown.below b5
      have hb5 := hbw.trans (b5.mono hsz)
      have s5 := b5.size
      have hsz5 := hb5.size
      clear c0 l0 X0 hown hbw b5
      have c0 := bxc x5 0 _ rfl
      have l0 := lt_of_block x5
      have HX5 := Lib.hid x5
      clear x5
      by_cases hd : (dep ps k : Int) = v
      · have HL := Lib.hid (lvl_yes hd)
        have hq : ((dep ps k : Int) == v) = true := by simpa using hd
        clear hd
        have HM := Lib.hid (show (lvl ps v (k + 1)).length = m + 1 by rw [HL.out, List.length_append, hm.out]; rfl)
        generalize lvl ps v k = K0 at *
        generalize dep ps k = dk at *
        go_wp2_with (at_builtin; refine wp_app1 (v := (k : Int)) rfl _ _ rfl w0.heap.size B m c2 K0 rfl hown5 _ rfl rfl (by omega) hsz5 ?_; intro A3 c3 w6 hown6 hg6 _)
        have hb6 := below_write hb5 hg6 hsz5 (fun k hk => (hown5.row_ge k hk).1)
        have hrow := Lib.hid (fun k hk => (hown5.row_ge k hk).1)
        have x6 := (hg6.block _ (lt_of_block HX5.out) (fun e => by have := hrow.out _ e.symm; omega)).trans HX5.out
        have X6 := Lib.hid x6
        have HO := Lib.hid hown6
        have HB6 := Lib.hid hb6
        clear hown5 hb5 hg6 hown6 hb6 x6 c0 l0 hq
        go_wp2
        go_roundw
        case rel => exact ⟨k + 1, m + 1, A3, c3, by omega, by go_num, rfl, by omega, HM, by rw [HL.out]; exact HO.out, X6, HB6.out⟩
        case measure => simp [intOf]; omega
      · have HL := Lib.hid (lvl_no hd)
        have hq : ((dep ps k : Int) == v) = false := by simpa using hd
        clear hd
        have HM := Lib.hid (show (lvl ps v (k + 1)).length = m by rw [HL.out, hm.out])
        generalize dep ps k = dk at *
        go_wp2
        go_roundw
        case rel => exact ⟨k + 1, m, B, c2, by omega, by go_num, rfl, by omega, HM, by rw [HL.out]; exact hown5, HX5, hb5⟩
        case measure => simp [intOf]; omega
    · obtain rfl : k = n := by omega
      have HO := Lib.hid hown
      have HW := Lib.hid hbw
      clear hown hbw
      go_wp2
      go_ret
      exact ⟨B, c2, congrArg (fun q => Ending.returned (.slice B q c2)) hm.out.symm, by rw [hm.out]; exact HO.out.mono s0, HB.out.trans (HW.out.mono s0)⟩

set_option maxRecDepth 100000 in
set_option maxHeartbeats 2000000 in
theorem gLevel_any (P : Option Addr) (n c : Nat) (ps : List Int) (v : Int) (w : World) (hx : IntR w P n ps) (hg : GeoOk ps n) :
    Calls Tryz.prog 130 #[.agg #[.slice P n c], .int .i64 v] w fun e w' => ∃ A' c', e = .returned (.slice A' (lvl ps v n).length c') ∧ Own w' w.heap.size A' (lvl ps v n).length c' (lvl ps v n) ∧ Below w.heap.size w w' := by
  have b0 := below_new w (.cells #[.slice P n c] 36)
  have x0 := box_new w #[.slice P n c] 36
  have hX := hx.below b0
  have c0 := bxc x0 0 _ rfl
  have l0 := lt_of_block x0
  have HB := Lib.hid b0
  have HG := Lib.hid hg
  have hn30 := hg.most
  go_enter Tryz.func130, Tryz.ntmps130
  go_wp2
  generalize w.alloc (.cells #[.slice P n c] 36) = w0 at *
  have X0 := Lib.hid x0
  have s0w := l0
  clear c0 l0 hx b0 hg x0
  go_loopw [5, 10] (fun a i wr => ∃ (k m : Nat) (B : Option Addr) (c2 : Nat), k ≤ n ∧ i = .int .i64 k ∧ a = .slice B m c2 ∧ m ≤ k ∧ Hid ((lvl ps v k).length = m) ∧ Own wr w0.heap.size B m c2 (lvl ps v k) ∧ Hid (wr.heap[w.heap.size]? = some (.cells #[.slice P n c] 36 (0, 0))) ∧ Below w0.heap.size w0 wr) (fun _ i _ => n - (intOf i).toNat)
  case atStart => exact ⟨0, 0, none, 0, Nat.zero_le _, rfl, rfl, Nat.le_refl _, Lib.hid rfl, Own.nil_, X0, Below.refl _ _⟩
  case round =>
    clear X0
    obtain ⟨k, m, B, c2, hk, rfl, rfl, hmk, hm, hown, X0, hbw⟩ := hrel
    have hsz := hbw.size
    have s0 := HB.out.size
    by_cases hlt : k < n
    · have c0 := bxc X0.out 0 _ rfl
      have l0 := lt_of_block X0.out
      go_wp2_with fail
      refine (gDepth_any P n c ps k _ (hX.below hbw) HG.out hlt).mono ?_
      rintro e w5 ⟨rfl, b5⟩
      have x5 := bxb X0.out b5
      have hown5 := hown.below b5
      have hb5 := hbw.trans (b5.mono hsz)
      have s5 := b5.size
      have hsz5 := hb5.size
      clear c0 l0 X0 hown hbw b5
      have c0 := bxc x5 0 _ rfl
      have l0 := lt_of_block x5
      have HX5 := Lib.hid x5
      clear x5
      by_cases hd : (dep ps k : Int) = v
      · have HL := Lib.hid (lvl_yes hd)
        have hq : ((dep ps k : Int) == v) = true := by simpa using hd
        clear hd
        have HM := Lib.hid (show (lvl ps v (k + 1)).length = m + 1 by rw [HL.out, List.length_append, hm.out]; rfl)
        generalize lvl ps v k = K0 at *
        generalize dep ps k = dk at *
        go_wp2_with (at_builtin; refine wp_app1 (v := (k : Int)) rfl _ _ rfl w0.heap.size B m c2 K0 rfl hown5 _ rfl rfl (by omega) hsz5 ?_; intro A3 c3 w6 hown6 hg6 _)
        have hb6 := below_write hb5 hg6 hsz5 (fun k hk => (hown5.row_ge k hk).1)
        have hrow := Lib.hid (fun k hk => (hown5.row_ge k hk).1)
        have x6 := (hg6.block _ (lt_of_block HX5.out) (fun e => by have := hrow.out _ e.symm; omega)).trans HX5.out
        have X6 := Lib.hid x6
        have HO := Lib.hid hown6
        have HB6 := Lib.hid hb6
        clear hown5 hb5 hg6 hown6 hb6 x6 c0 l0 hq
        go_wp2
        go_roundw
        case rel => exact ⟨k + 1, m + 1, A3, c3, by omega, by go_num, rfl, by omega, HM, by rw [HL.out]; exact HO.out, X6, HB6.out⟩
        case measure => simp [intOf]; omega
      · have HL := Lib.hid (lvl_no hd)
        have hq : ((dep ps k : Int) == v) = false := by simpa using hd
        clear hd
        have HM := Lib.hid (show (lvl ps v (k + 1)).length = m by rw [HL.out, hm.out])
        generalize dep ps k = dk at *
        go_wp2
        go_roundw
        case rel => exact ⟨k + 1, m, B, c2, by omega, by go_num, rfl, by omega, HM, by rw [HL.out]; exact hown5, HX5, hb5⟩
        case measure => simp [intOf]; omega
    · obtain rfl : k = n := by omega
      have HO := Lib.hid hown
      have HW := Lib.hid hbw
      clear hown hbw
      go_wp2
      go_ret
      exact ⟨B, c2, congrArg (fun q => Ending.returned (.slice B q c2)) hm.out.symm, by rw [hm.out]; exact HO.out.mono s0, HB.out.trans (HW.out.mono s0)⟩

set_option maxRecDepth 100000 in
set_option maxHeartbeats 2000000 in
theorem ancestorAt_any (P : Option Addr) (n c : Nat) (ps : List Int) (i0 : Nat) (v : Int) (w : World) (hx : IntR w P n ps) (hg : GeoOk ps n) (hi : i0 < n) :
    Calls Tryz.prog 191 #[.agg #[.slice P n c], .int .i64 i0, .int .i64 v] w fun e w' => e = .returned (.int .i64 (anc ps i0 v)) ∧ Below w.heap.size w w' := by
  have b0 := below_new w (.cells #[.slice P n c] 36)
  have x0 := box_new w #[.slice P n c] 36
  have hX := hx.below b0
  have c0 := bxc x0 0 _ rfl
  have l0 := lt_of_block x0
  have HB := Lib.hid b0
  have HG := Lib.hid hg
  have hn30 := hg.most
  have hd30 := dep_le hg i0 hi
  clear hx b0 hg
  by_cases hv : v < 0
  · have R := Lib.hid (anc_no (ps := ps) (i := i0) (.inl hv))
    rw [R.out]
    go_enter Tryz.func191, Tryz.ntmps191
    go_wp2_with fail
    generalize w.alloc (.cells #[.slice P n c] 36) = w0 at *
    refine (depthOf_any P n c ps i0 _ hX HG.out hi).mono ?_
    rintro e w1 ⟨rfl, b1⟩
    have HB1 := Lib.hid (HB.out.trans (b1.mono HB.out.size))
    have x1 := bxb x0 b1
    have hX1 := hX.below b1
    clear c0 l0 x0 hX b1
    have c0 := bxc x1 0 _ rfl
    have l0 := lt_of_block x1
    clear x1
    obtain ⟨D, hD⟩ : ∃ D, dep ps i0 = D := ⟨_, rfl⟩
    have HD := Lib.hid hD
    rw [hD]
    clear hD
    go_wp2
    go_ret
    exact ⟨rfl, HB1.out⟩
  obtain ⟨V, rfl⟩ := Int.eq_ofNat_of_zero_le (show 0 ≤ v by omega)
  by_cases hdv : dep ps i0 < V
  · have R := Lib.hid (anc_no (ps := ps) (i := i0) (v := (V : Int)) (.inr (by omega)))
    rw [R.out]
    go_enter Tryz.func191, Tryz.ntmps191
    go_wp2_with fail
    generalize w.alloc (.cells #[.slice P n c] 36) = w0 at *
    refine (depthOf_any P n c ps i0 _ hX HG.out hi).mono ?_
    rintro e w1 ⟨rfl, b1⟩
    have HB1 := Lib.hid (HB.out.trans (b1.mono HB.out.size))
    have x1 := bxb x0 b1
    have hX1 := hX.below b1
    clear c0 l0 x0 hX b1
    have c0 := bxc x1 0 _ rfl
    have l0 := lt_of_block x1
    clear x1
    obtain ⟨D, hD⟩ : ∃ D, dep ps i0 = D := ⟨_, rfl⟩
    have HD := Lib.hid hD
    rw [hD]
    clear hD
    rw [HD.out] at hdv
    go_wp2
    go_ret
    exact ⟨rfl, HB1.out⟩
  have R := Lib.hid (anc_yes (ps := ps) (i := i0) (v := V) (by omega))
  rw [R.out]
  go_enter Tryz.func191, Tryz.ntmps191
  go_wp2_with fail
  generalize w.alloc (.cells #[.slice P n c] 36) = w0 at *
  refine (depthOf_any P n c ps i0 _ hX HG.out hi).mono ?_
  rintro e w1 ⟨rfl, b1⟩
  have HB1 := Lib.hid (HB.out.trans (b1.mono HB.out.size))
  have x1 := bxb x0 b1
  have hX1 := hX.below b1
  clear c0 l0 x0 hX b1
  have c0 := bxc x1 0 _ rfl
  have l0 := lt_of_block x1
  clear x1
  obtain ⟨D, hD⟩ : ∃ D, dep ps i0 = D := ⟨_, rfl⟩
  have HD := Lib.hid hD
  rw [hD] at hdv hd30 ⊢
  clear hD
  have hr := R
  rw [HD.out] at hr
  have HI := Lib.hid hi
  go_wp2
  go_loop [1, 7] (fun i d => ∃ k dd : Nat, k < n ∧ V ≤ dd ∧ dd ≤ 30 ∧ i = .int .i64 k ∧ d = .int .i64 dd ∧ Hid (dep ps k = dd) ∧ Hid (upN ps k (dd - V) = upN ps i0 (D - V))) (fun _ d => (intOf d).toNat)
  case atStart => exact ⟨i0, D, hi, by omega, by omega, rfl, rfl, HD, Lib.hid rfl⟩
  case round =>
    obtain ⟨k, dd, hk, hVd, hdd, rfl, rfl, hdk, hu⟩ := hrel
    by_cases hlt : V < dd
    · have h0 : 0 < k := by
        rcases Nat.eq_zero_or_pos k with rfl | h0
        · have := hdk.out; rw [dep_zero] at this; omega
        · exact h0
      obtain ⟨ad, rfl, hc⟩ := hX1.i.at_ hk
      have hpe := HG.out.par_eq h0 hk
      have hds := dep_step HG.out h0 hk
      have hpl := HG.out.par_lt h0 hk
      obtain ⟨d1, rfl⟩ : ∃ d1, dd = d1 + 1 := ⟨dd - 1, by omega⟩
      have HK := Lib.hid (show dep ps (par ps k) = d1 by have := hdk.out; omega)
      have HU := Lib.hid (show upN ps (par ps k) (d1 - V) = upN ps i0 (D - V) by have := hu.out; rw [show d1 + 1 - V = (d1 - V) + 1 by omega] at this; exact this)
      rw [show ps[k]?.getD 0 = ((par ps k : Nat) : Int) from hpe] at hc
      clear hu hdk hpe hds hX1
      generalize par ps k = m at *
      go_wp2
      go_round
      case rel => exact ⟨m, d1, by omega, by omega, by omega, rfl, by go_num, HK, HU⟩
      case measure => simp [intOf]
    · obtain rfl : dd = V := by omega
      have HE := Lib.hid (show k = upN ps i0 (D - dd) by have := hu.out; rw [Nat.sub_self] at this; exact this)
      clear hu hX1
      go_wp2
      go_ret
      exact ⟨congrArg (fun q : Nat => Ending.returned (.int .i64 (q : Int))) (by rw [HD.out]; exact HE.out), HB1.out⟩

set_option maxRecDepth 100000 in
set_option maxHeartbeats 2000000 in
theorem gUp_any (P : Option Addr) (n c : Nat) (ps : List Int) (i0 : Nat) (v : Int) (w : World) (hx : IntR w P n ps) (hg : GeoOk ps n) (hi : i0 < n) :
    Calls Tryz.prog 201 #[.agg #[.slice P n c], .int .i64 i0, .int .i64 v] w fun e w' => e = .returned (.int .i64 (anc ps i0 v)) ∧ Below w.heap.size w w' := by
  have b0 := below_new w (.cells #[.slice P n c] 36)
  have x0 := box_new w #[.slice P n c] 36
  have hX := hx.below b0
  have c0 := bxc x0 0 _ rfl
  have l0 := lt_of_block x0
  have HB := Lib.hid b0
  have HG := Lib.hid hg
  have hn30 := hg.most
  have hd30 := dep_le hg i0 hi
  clear hx b0 hg
  by_cases hv : v < 0
  · have R := Lib.hid (anc_no (ps := ps) (i := i0) (.inl hv))
    rw [R.out]
    go_enter Tryz.func201, Tryz.ntmps201
    go_wp2_with fail
    generalize w.alloc (.cells #[.slice P n c] 36) = w0 at *
    refine (gDepth_any P n c ps i0 _ hX HG.out hi).mono ?_
    rintro e w1 ⟨rfl, b1⟩
    have HB1 := Lib.hid (HB.out.trans (b1.mono HB.out.size))
    have x1 := bxb x0 b1
    have hX1 := hX.below b1
    clear c0 l0 x0 hX b1
    have c0 := bxc x1 0 _ rfl
    have l0 := lt_of_block x1
    clear x1
    obtain ⟨D, hD⟩ : ∃ D, dep ps i0 = D := ⟨_, rfl⟩
    have HD := Lib.hid hD
    rw [hD]
    clear hD
    go_wp2
    go_ret
    exact ⟨rfl, HB1.out⟩
  obtain ⟨V, rfl⟩ := Int.eq_ofNat_of_zero_le (show 0 ≤ v by omega)
  by_cases hdv : dep ps i0 < V
  · have R := Lib.hid (anc_no (ps := ps) (i := i0) (v := (V : Int)) (.inr (by omega)))
    rw [R.out]
    go_enter Tryz.func201, Tryz.ntmps201
    go_wp2_with fail
    generalize w.alloc (.cells #[.slice P n c] 36) = w0 at *
    refine (gDepth_any P n c ps i0 _ hX HG.out hi).mono ?_
    rintro e w1 ⟨rfl, b1⟩
    have HB1 := Lib.hid (HB.out.trans (b1.mono HB.out.size))
    have x1 := bxb x0 b1
    have hX1 := hX.below b1
    clear c0 l0 x0 hX b1
    have c0 := bxc x1 0 _ rfl
    have l0 := lt_of_block x1
    clear x1
    obtain ⟨D, hD⟩ : ∃ D, dep ps i0 = D := ⟨_, rfl⟩
    have HD := Lib.hid hD
    rw [hD]
    clear hD
    rw [HD.out] at hdv
    rw [HD.out] at hd30
    go_wp2
    go_loop [1, 7] (fun i d => i = .int .i64 i0 ∧ d = .int .i64 D) (fun _ _ => 0)
    case atStart => exact ⟨rfl, rfl⟩
    case round =>
      obtain ⟨rfl, rfl⟩ := hrel
      go_wp2
      go_ret
      exact ⟨rfl, HB1.out⟩
  have R := Lib.hid (anc_yes (ps := ps) (i := i0) (v := V) (by omega))
  rw [R.out]
  go_enter Tryz.func201, Tryz.ntmps201
  go_wp2_with fail
  generalize w.alloc (.cells #[.slice P n c] 36) = w0 at *
  refine (gDepth_any P n c ps i0 _ hX HG.out hi).mono ?_
  rintro e w1 ⟨rfl, b1⟩
  have HB1 := Lib.hid (HB.out.trans (b1.mono HB.out.size))
  have x1 := bxb x0 b1
  have hX1 := hX.below b1
  clear c0 l0 x0 hX b1
  have c0 := bxc x1 0 _ rfl
  have l0 := lt_of_block x1
  clear x1
  obtain ⟨D, hD⟩ : ∃ D, dep ps i0 = D := ⟨_, rfl⟩
  have HD := Lib.hid hD
  rw [hD] at hdv hd30 ⊢
  clear hD
  have hr := R
  rw [HD.out] at hr
  have HI := Lib.hid hi
  go_wp2
  go_loop [1, 7] (fun i d => ∃ k dd : Nat, k < n ∧ V ≤ dd ∧ dd ≤ 30 ∧ i = .int .i64 k ∧ d = .int .i64 dd ∧ Hid (dep ps k = dd) ∧ Hid (upN ps k (dd - V) = upN ps i0 (D - V))) (fun _ d => (intOf d).toNat)
  case atStart => exact ⟨i0, D, hi, by omega, by omega, rfl, rfl, HD, Lib.hid rfl⟩
  case round =>
    obtain ⟨k, dd, hk, hVd, hdd, rfl, rfl, hdk, hu⟩ := hrel
    by_cases hlt : V < dd
    · have h0 : 0 < k := by
        rcases Nat.eq_zero_or_pos k with rfl | h0
        · have := hdk.out; rw [dep_zero] at this; omega
        · exact h0
      obtain ⟨ad, rfl, hc⟩ := hX1.i.at_ hk
      have hpe := HG.out.par_eq h0 hk
      have hds := dep_step HG.out h0 hk
      have hpl := HG.out.par_lt h0 hk
      obtain ⟨d1, rfl⟩ : ∃ d1, dd = d1 + 1 := ⟨dd - 1, by omega⟩
      have HK := Lib.hid (show dep ps (par ps k) = d1 by have := hdk.out; omega)
      have HU := Lib.hid (show upN ps (par ps k) (d1 - V) = upN ps i0 (D - V) by have := hu.out; rw [show d1 + 1 - V = (d1 - V) + 1 by omega] at this; exact this)
      rw [show ps[k]?.getD 0 = ((par ps k : Nat) : Int) from hpe] at hc
      clear hu hdk hpe hds hX1
      generalize par ps k = m at *
      go_wp2
      go_round
      case rel => exact ⟨m, d1, by omega, by omega, by omega, rfl, by go_num, HK, HU⟩
      case measure => simp [intOf]
    · obtain rfl : dd = V := by omega
      have HE := Lib.hid (show k = upN ps i0 (D - dd) by have := hu.out; rw [Nat.sub_self] at this; exact this)
      clear hu hX1
      go_wp2
      go_ret
      exact ⟨congrArg (fun q : Nat => Ending.returned (.int .i64 (q : Int))) (by rw [HD.out]; exact HE.out), HB1.out⟩
end

section
open Go.RowKit

theorem allTo_zero (p : Nat → Bool) : allTo p 0 = true := rfl
theorem inR_len {ps : List Int} {n : Nat} (hl : ps.length = n) (h : ¬ (1 ≤ n ∧ n ≤ 30)) : false = geoB ps := (geoB_1 (inR_no (by rw [hl]; omega))).symm
theorem geo_yes {ps : List Int} {n : Nat} (hl : ps.length = n) (h1 : 1 ≤ n) (h2 : n ≤ 30) (h3 : gP ps 0 = -1) (h4 : allTo (parOk ps) n = true) : true = geoB ps := (geoB_4 (inR_yes (by omega) (by omega)) h3 (by rw [hl]; exact h4)).symm
theorem parOk_no {ps : List Int} {n i : Nat} (hl : ps.length = n) (hi : i < n) (h0 : 0 < i) (h : ¬ (0 ≤ gP ps i ∧ gP ps i ≤ (i : Int) - 1)) : false = geoB ps := (geoB_3 (i := i) (by unfold parOk; rw [decide_eq_false (by omega), inR_no h]; rfl) (by omega)).symm
theorem parOk_yes {ps : List Int} {i : Nat} (h : i = 0 ∨ (0 ≤ gP ps i ∧ gP ps i ≤ (i : Int) - 1)) : parOk ps i = true := by
  unfold parOk
  rcases h with rfl | h
  · rfl
  · rw [inR_yes h.1 h.2]; simp

set_option maxRecDepth 100000 in
set_option maxHeartbeats 2000000 in
theorem IsGeo_any (P : Option Addr) (n c : Nat) (ps : List Int) (w : World) (hx : IntR w P n ps) :
    Calls Tryz.prog 57 #[.agg #[.slice P n c]] w fun e w' => e = .returned (.bool (geoB ps)) ∧ Below w.heap.size w w' := by
  have hn := hx.bd
  have hl := Lib.hid hx.len
  have b0 := below_new w (.cells #[.slice P n c] 36)
  have x0 := box_new w #[.slice P n c] 36
  have hX := hx.below b0
  have c0 := bxc x0 0 _ rfl
  have l0 := lt_of_block x0
  have HB := Lib.hid b0
  clear x0 hx b0
  by_cases h1 : n < 1
  · have R := Lib.hid (inR_len hl.out (by omega))
    go_enter Tryz.func57, Tryz.ntmps57
    go_wp2
    go_ret
    exact ⟨ret_bool R.out, HB.out⟩
  by_cases h2 : 30 < n
  · have R := Lib.hid (inR_len hl.out (by omega))
    go_enter Tryz.func57, Tryz.ntmps57
    go_wp2
    go_ret
    exact ⟨ret_bool R.out, HB.out⟩
  obtain ⟨ad0, hA, hc⟩ := hX.i.at_ (show 0 < n by omega)
  subst hA
  have hc0 := hc
  rw [show ad0.add 0 = ad0 by unfold Addr.add; simp] at hc0
  have hg : ps[0]?.getD 0 = gP ps 0 := rfl
  rw [hg] at hc hc0
  clear hg
  by_cases h3 : gP ps 0 = -1
  rotate_left
  · have R := Lib.hid (geoB_2 h3).symm
    have hq : (gP ps 0 != -1) = true := by simpa using h3
    clear h3 hX
    generalize gP ps 0 = x at *
    go_enter Tryz.func57, Tryz.ntmps57
    go_wp2
    go_ret
    exact ⟨ret_bool R.out, HB.out⟩
  have H3 := Lib.hid h3
  rw [h3] at hc hc0
  clear h3
  go_enter Tryz.func57, Tryz.ntmps57
  go_wp2
  go_loop [3] (fun i => ∃ k : Nat, 1 ≤ k ∧ k ≤ n ∧ i = .int .i64 k ∧ Hid (allTo (parOk ps) k = true)) (fun i => n - (intOf i).toNat)
  case atStart => exact ⟨1, Nat.le_refl _, by omega, rfl, Lib.hid (allTo_succ (allTo_zero _) (parOk_yes (.inl rfl)))⟩
  case round =>
    obtain ⟨k, hk1, hk, rfl, ha⟩ := hrel
    by_cases hlt : k < n
    · obtain ⟨ad, hA, hck⟩ := hX.i.at_ hlt
      obtain rfl : ad0 = ad := by injection hA
      have hgk : ps[k]?.getD 0 = gP ps k := rfl
      rw [hgk] at hck
      have HN := Lib.hid (fun h => parOk_no hl.out hlt hk1 h)
      have HY := Lib.hid (fun h => parOk_yes (ps := ps) (i := k) (.inr h))
      clear hgk hX hA hc hc0
      generalize gP ps k = x at *
      by_cases h5 : x < 0
      · have R := Lib.hid (HN.out (by omega))
        go_wp2
        go_ret
        exact ⟨ret_bool R.out, HB.out⟩
      by_cases h6 : (k : Int) ≤ x
      · have R := Lib.hid (HN.out (by omega))
        go_wp2
        go_ret
        exact ⟨ret_bool R.out, HB.out⟩
      have HA := Lib.hid (allTo_succ ha.out (HY.out (by omega)))
      go_wp2
      go_round
      case rel => exact ⟨k + 1, by omega, by omega, by go_num, HA⟩
      case measure => simp [intOf]; omega
    · obtain rfl : k = n := by omega
      have R := Lib.hid (geo_yes hl.out (by omega) (by omega) H3.out ha.out)
      clear hX hc hc0
      go_wp2
      go_ret
      exact ⟨ret_bool R.out, HB.out⟩

set_option maxRecDepth 100000 in
set_option maxHeartbeats 2000000 in
theorem gGood_any (P : Option Addr) (n c : Nat) (ps : List Int) (w : World) (hx : IntR w P n ps) :
    Calls Tryz.prog 128 #[.agg #[.slice P n c]] w fun e w' => e = .returned (.bool (geoB ps)) ∧ Below w.heap.size w w' := by
  have hn := hx.bd
  have hl := Lib.hid hx.len
  have b0 := below_new w (.cells #[.slice P n c] 36)
  have x0 := box_new w #[.slice P n c] 36
  have hX := hx.below b0
  have c0 := bxc x0 0 _ rfl
  have l0 := lt_of_block x0
  have HB := Lib.hid b0
  clear x0 hx b0
  cases h1 : inR (n : Int) 1 30
  · have R := Lib.hid (inR_len hl.out (fun h => by rw [inR_yes (by omega) (by omega)] at h1; cases h1))
    have H1 := Lib.hid h1
    clear h1
    go_enter Tryz.func128, Tryz.ntmps128
    go_wp2_with fail
    refine (l1In_any _ _ _ _).mono ?_
    rintro e wq ⟨rfl, rfl⟩
    rw [H1.out]
    go_wp2
    go_ret
    exact ⟨ret_bool R.out, HB.out⟩
  have hnr := inR_of h1
  have H1 := Lib.hid h1
  clear h1
  obtain ⟨ad0, hA, hc⟩ := hX.i.at_ (show 0 < n by omega)
  subst hA
  have hc0 := hc
  rw [show ad0.add 0 = ad0 by unfold Addr.add; simp] at hc0
  have hg : ps[0]?.getD 0 = gP ps 0 := rfl
  rw [hg] at hc hc0
  clear hg
  by_cases h3 : gP ps 0 = -1
  rotate_left
  · have R := Lib.hid (geoB_2 h3).symm
    have hq : (gP ps 0 != -1) = true := by simpa using h3
    clear h3 hX
    generalize gP ps 0 = x at *
    go_enter Tryz.func128, Tryz.ntmps128
    go_wp2_with fail
    refine (l1In_any _ _ _ _).mono ?_
    rintro e wq ⟨rfl, rfl⟩
    rw [H1.out]
    go_wp2
    go_ret
    exact ⟨ret_bool R.out, HB.out⟩
  have H3 := Lib.hid h3
  rw [h3] at hc hc0
  clear h3
  go_enter Tryz.func128, Tryz.ntmps128
  go_wp2_with fail
  refine (l1In_any _ _ _ _).mono ?_
  rintro e wq ⟨rfl, rfl⟩
  rw [H1.out]
  go_wp2
  go_loop [20] (fun i => ∃ k : Nat, k ≤ n ∧ i = .int .i64 k ∧ Hid (allTo (parOk ps) k = true)) (fun i => n - (intOf i).toNat)
  case atStart => exact ⟨0, Nat.zero_le _, rfl, Lib.hid (allTo_zero _)⟩
  case round =>
    obtain ⟨k, hk, rfl, ha⟩ := hrel
    by_cases hlt : k < n
    · obtain ⟨ad, hA, hck⟩ := hX.i.at_ hlt
      obtain rfl : ad0 = ad := by injection hA
      have hgk : ps[k]?.getD 0 = gP ps k := rfl
      rw [hgk] at hck
      by_cases h0 : 0 < k
      · have HN := Lib.hid (fun h => parOk_no hl.out hlt h0 h)
        have HY := Lib.hid (fun h => parOk_yes (ps := ps) (i := k) (.inr h))
        clear hgk hX hA hc hc0
        generalize gP ps k = x at *
        cases h5 : inR x 0 ((k : Int) - 1)
        · have R := Lib.hid (HN.out (fun h => by rw [inR_yes h.1 h.2] at h5; cases h5))
          have H5 := Lib.hid h5
          clear h5
          go_wp2_with fail
          refine (l1In_any _ _ _ _).mono ?_
          rintro e wq ⟨rfl, rfl⟩
          rw [H5.out]
          go_wp2
          go_ret
          exact ⟨ret_bool R.out, HB.out⟩
        have HA := Lib.hid (allTo_succ ha.out (HY.out (inR_of h5)))
        have H5 := Lib.hid h5
        clear h5
        go_wp2_with fail
        refine (l1In_any _ _ _ _).mono ?_
        rintro e wq ⟨rfl, rfl⟩
        rw [H5.out]
        go_wp2
        go_round
        case rel => exact ⟨k + 1, by omega, by go_num, HA⟩
        case measure => simp [intOf]; omega
      · have HA := Lib.hid (allTo_succ ha.out (parOk_yes (ps := ps) (i := k) (.inl (by omega))))
        clear hgk hX hA hc hc0
        generalize gP ps k = x at *
        go_wp2
        go_round
        case rel => exact ⟨k + 1, by omega, by go_num, HA⟩
        case measure => simp [intOf]; omega
    · obtain rfl : k = n := by omega
      have R := Lib.hid (geo_yes hl.out (by omega) (by omega) H3.out ha.out)
      clear hX hc hc0
      go_wp2
      go_ret
      exact ⟨ret_bool R.out, HB.out⟩

set_option maxRecDepth 100000 in
set_option maxHeartbeats 2000000 in
theorem isArea_any (P : Option Addr) (n c : Nat) (ps : List Int) (i : Int) (w : World) (hx : IntR w P n ps) :
    Calls Tryz.prog 115 #[.agg #[.slice P n c], .int .i64 i] w fun e w' => e = .returned (.bool (inR i 0 ((n : Int) - 1))) ∧ Below w.heap.size w w' := by
  have hn := hx.bd
  have b0 := below_new w (.cells #[.slice P n c] 36)
  have x0 := box_new w #[.slice P n c] 36
  have hX := hx.below b0
  have c0 := bxc x0 0 _ rfl
  have l0 := lt_of_block x0
  have HB := Lib.hid b0
  clear x0 hx b0 hX
  by_cases h1 : 0 ≤ i
  · by_cases h2 : i < n
    · have R := Lib.hid (inR_yes h1 (show i ≤ (n : Int) - 1 by omega)).symm
      go_enter Tryz.func115, Tryz.ntmps115
      go_wp2
      go_ret
      exact ⟨ret_bool R.out, HB.out⟩
    · have R := Lib.hid (inR_no (show ¬ (0 ≤ i ∧ i ≤ (n : Int) - 1) by omega)).symm
      go_enter Tryz.func115, Tryz.ntmps115
      go_wp2
      go_ret
      exact ⟨ret_bool R.out, HB.out⟩
  · have R := Lib.hid (inR_no (show ¬ (0 ≤ i ∧ i ≤ (n : Int) - 1) by omega)).symm
    go_enter Tryz.func115, Tryz.ntmps115
    go_wp2
    go_ret
    exact ⟨ret_bool R.out, HB.out⟩

set_option maxRecDepth 100000 in
set_option maxHeartbeats 2000000 in
theorem isLeaf_any (P : Option Addr) (n c : Nat) (ps : List Int) (i : Int) (w : World) (hx : IntR w P n ps) :
    Calls Tryz.prog 116 #[.agg #[.slice P n c], .int .i64 i] w fun e w' => e = .returned (.bool (leafB ps i)) ∧ Below w.heap.size w w' := by
  have b0 := below_new w (.cells #[.slice P n c] 36)
  have x0 := box_new w #[.slice P n c] 36
  have hX := hx.below b0
  have c0 := bxc x0 0 _ rfl
  have l0 := lt_of_block x0
  have HB := Lib.hid b0
  clear x0 hx b0
  have R := Lib.hid (show (!hasB ps i) = leafB ps i from rfl)
  go_enter Tryz.func116, Tryz.ntmps116
  go_wp2_with fail
  refine (contains_any P n c i ps _ hX).mono ?_
  rintro e w1 ⟨rfl, rfl⟩
  clear hX
  go_wp2
  go_ret
  exact ⟨ret_bool R.out, HB.out⟩

set_option maxRecDepth 100000 in
set_option maxHeartbeats 2000000 in
theorem gChildren_any (P : Option Addr) (n c : Nat) (ps : List Int) (i : Int) (w : World) (hx : IntR w P n ps) (hn30 : n ≤ 30) :
    Calls Tryz.prog 195 #[.agg #[.slice P n c], .int .i64 i] w fun e w' => (∃ (A' : Option Addr) (m c' : Nat), e = .returned (.slice A' m c') ∧ m ≤ 30 ∧ (decide ((m : Int) = 0) = leafB ps i)) ∧ Below w.heap.size w w' := by
  have hl := Lib.hid hx.len
  have b0 := below_new w (.cells #[.slice P n c] 36)
  have x0 := box_new w #[.slice P n c] 36
  have hX := hx.below b0
  have c0 := bxc x0 0 _ rfl
  have l0 := lt_of_block x0
  have HB := Lib.hid b0
  go_enter Tryz.func195, Tryz.ntmps195
  go_wp2
  generalize w.alloc (.cells #[.slice P n c] 36) = w0 at *
  have s0w := l0
  clear c0 l0 hx b0 x0
  go_loopw [5, 11] (fun a i' wr => ∃ (k m : Nat) (B : Option Addr) (c2 : Nat) (K : List Int), k ≤ n ∧ i' = .int .i64 k ∧ a = .slice B m c2 ∧ m ≤ k ∧ Hid (m = 0 ↔ ∀ t, t < k → ps[t]?.getD 0 ≠ i) ∧ Own wr w0.heap.size B m c2 K ∧ Below w0.heap.size w0 wr) (fun _ i' _ => n - (intOf i').toNat)
  case atStart => exact ⟨0, 0, none, 0, [], Nat.zero_le _, rfl, rfl, Nat.le_refl _, Lib.hid ⟨fun _ t ht => absurd ht (by omega), fun _ => rfl⟩, Own.nil_, Below.refl _ _⟩
  case round =>
    obtain ⟨k, m, B, c2, K0, hk, rfl, rfl, hmk, hm, hown, hbw⟩ := hrel
    have hsz := hbw.size
    have s0 := HB.out.size
    by_cases hlt : k < n
    · obtain ⟨ad, rfl, hc⟩ := (hX.below hbw).i.at_ hlt
      have HE := Lib.hid (fun h => all_succ (p := fun t => ps[t]?.getD 0 ≠ i) (k := k) h)
      have HV := Lib.hid (show ps[k]?.getD 0 = ps[k]?.getD 0 from rfl)
      clear hX
      obtain ⟨x, hxe⟩ : ∃ x, ps[k]?.getD 0 = x := ⟨_, rfl⟩
      rw [hxe] at hc
      have HXE := Lib.hid hxe
      clear hxe HV
      by_cases hd : x = i
      · have HM := Lib.hid (show m + 1 = 0 ↔ ∀ t, t < k + 1 → ps[t]?.getD 0 ≠ i from ⟨fun h => absurd h (by omega), fun h => absurd (HXE.out.trans hd) (h k (by omega))⟩)
        have hq : (x == i) = true := by simpa using hd
        clear hd hm HE HXE
        go_wp2_with (at_builtin; refine wp_app1 (v := (k : Int)) rfl _ _ rfl w0.heap.size B m c2 K0 rfl hown _ rfl rfl (by omega) hsz ?_; intro A3 c3 w6 hown6 hg6 _)
        have hb6 := below_write hbw hg6 hsz (fun k hk => (hown.row_ge k hk).1)
        have HO := Lib.hid hown6
        have HB6 := Lib.hid hb6
        clear hown hbw hg6 hown6 hb6 hq hc
        go_wp2
        go_roundw
        case rel => exact ⟨k + 1, m + 1, A3, c3, _, by omega, by go_num, rfl, by omega, HM, HO.out, HB6.out⟩
        case measure => simp [intOf]; omega
      · have HM := Lib.hid (show m = 0 ↔ ∀ t, t < k + 1 → ps[t]?.getD 0 ≠ i from ⟨fun h t ht => HE.out (hm.out.1 h) (by rw [HXE.out]; exact hd) t ht, fun h => hm.out.2 (fun t ht => h t (by omega))⟩)
        have hq : (x == i) = false := by simpa using hd
        have HO := Lib.hid hown
        have HW := Lib.hid hbw
        clear hd hm HE HXE hown hbw
        go_wp2
        go_roundw
        case rel => exact ⟨k + 1, m, B, c2, K0, by omega, by go_num, rfl, by omega, HM, HO.out, HW.out⟩
        case measure => simp [intOf]; omega
    · obtain rfl : k = n := by omega
      have HR := Lib.hid (show decide ((m : Int) = 0) = leafB ps i by
        unfold leafB
        by_cases h : m = 0
        · rw [hasB_no hl.out (hm.out.1 h), decide_eq_true (by omega)]; rfl
        · cases hb : hasB ps i with
          | true => rw [decide_eq_false (by omega)]; rfl
          | false =>
            exfalso
            refine h (hm.out.2 fun t ht e => ?_)
            rw [hasB_yes hl.out ht e] at hb
            cases hb)
      have HW := Lib.hid hbw
      clear hown hbw hm hX
      go_wp2
      go_ret
      exact ⟨⟨B, m, c2, rfl, by omega, HR.out⟩, HB.out.trans (HW.out.mono s0)⟩

set_option maxRecDepth 100000 in
set_option maxHeartbeats 2000000 in
theorem gLeaves_any (P : Option Addr) (n c : Nat) (ps : List Int) (w : World) (hx : IntR w P n ps) (hn30 : n ≤ 30) :
    Calls Tryz.prog 161 #[.agg #[.slice P n c]] w fun e w' => ∃ A' c', e = .returned (.slice A' (lvsL ps n).length c') ∧ Own w' w.heap.size A' (lvsL ps n).length c' (lvsL ps n) ∧ Below w.heap.size w w' := by
  have b0 := below_new w (.cells #[.slice P n c] 36)
  have x0 := box_new w #[.slice P n c] 36
  have hX := hx.below b0
  have c0 := bxc x0 0 _ rfl
  have l0 := lt_of_block x0
  have HB := Lib.hid b0
  go_enter Tryz.func161, Tryz.ntmps161
  go_wp2
  generalize w.alloc (.cells #[.slice P n c] 36) = w0 at *
  have X0 := Lib.hid x0
  have s0w := l0
  clear c0 l0 hx b0 x0
  go_loopw [3, 8] (fun a i wr => ∃ (k m : Nat) (B : Option Addr) (c2 : Nat), k ≤ n ∧ i = .int .i64 k ∧ a = .slice B m c2 ∧ m ≤ k ∧ Hid ((lvsL ps k).length = m) ∧ Own wr w0.heap.size B m c2 (lvsL ps k) ∧ Hid (wr.heap[w.heap.size]? = some (.cells #[.slice P n c] 36 (0, 0))) ∧ Below w0.heap.size w0 wr) (fun _ i _ => n - (intOf i).toNat)
  case atStart => exact ⟨0, 0, none, 0, Nat.zero_le _, rfl, rfl, Nat.le_refl _, Lib.hid rfl, Own.nil_, X0, Below.refl _ _⟩
  case round =>
    clear X0
    obtain ⟨k, m, B, c2, hk, rfl, rfl, hmk, hm, hown, X0, hbw⟩ := hrel
    have hsz := hbw.size
    have s0 := HB.out.size
    by_cases hlt : k < n
    · have c0 := bxc X0.out 0 _ rfl
      have l0 := lt_of_block X0.out
      go_wp2_with fail
      refine (gChildren_any P n c ps k _ (hX.below hbw) hn30).mono ?_
      rintro e w5 ⟨⟨Aq, mq, cq, rfl, hmq, hlf⟩, b5⟩
      have x5 := bxb X0.out b5
      have hown5 := hown.below b5
      have hb5 := hbw.trans (b5.mono hsz)
      have s5 := b5.size
      have hsz5 := hb5.size
      clear c0 l0 X0 hown hbw b5
      have HX5 := Lib.hid x5
      clear x5
      cases hd : leafB ps k
      · have HL := Lib.hid (show lvsL ps (k + 1) = lvsL ps k by rw [lvsL, if_neg (by simp [hd])])
        rw [hd] at hlf
        have hq : ((mq : Int) == 0) = false := by rw [beq_eq_false_iff_ne]; exact of_decide_eq_false hlf
        have HM := Lib.hid (show (lvsL ps (k + 1)).length = m by rw [HL.out, hm.out])
        clear hd hlf
        go_wp2
        go_roundw
        case rel => exact ⟨k + 1, m, B, c2, by omega, by go_num, rfl, by omega, HM, by rw [HL.out]; exact hown5, HX5, hb5⟩
        case measure => simp [intOf]; omega
      · have HL := Lib.hid (show lvsL ps (k + 1) = lvsL ps k ++ [(k : Int)] by rw [lvsL, if_pos hd])
        rw [hd] at hlf
        have hq : ((mq : Int) == 0) = true := by rw [beq_iff_eq]; exact of_decide_eq_true hlf
        have HM := Lib.hid (show (lvsL ps (k + 1)).length = m + 1 by rw [HL.out, List.length_append, hm.out]; rfl)
        clear hd hlf
        generalize lvsL ps k = K0 at *
        go_wp2_with (at_builtin; refine wp_app1 (v := (k : Int)) rfl _ _ rfl w0.heap.size B m c2 K0 rfl hown5 _ rfl rfl (by omega) hsz5 ?_; intro A3 c3 w6 hown6 hg6 _)
        have hb6 := below_write hb5 hg6 hsz5 (fun k hk => (hown5.row_ge k hk).1)
        have hrow := Lib.hid (fun k hk => (hown5.row_ge k hk).1)
        have x6 := (hg6.block _ (lt_of_block HX5.out) (fun e => by have := hrow.out _ e.symm; omega)).trans HX5.out
        have X6 := Lib.hid x6
        have HO := Lib.hid hown6
        have HB6 := Lib.hid hb6
        clear hown5 hb5 hg6 hown6 hb6 x6 hq
        go_wp2
        go_roundw
        case rel => exact ⟨k + 1, m + 1, A3, c3, by omega, by go_num, rfl, by omega, HM, by rw [HL.out]; exact HO.out, X6, HB6.out⟩
        case measure => simp [intOf]; omega
    · obtain rfl : k = n := by omega
      have HO := Lib.hid hown
      have HW := Lib.hid hbw
      clear hown hbw
      go_wp2
      go_ret
      exact ⟨B, c2, congrArg (fun q => Ending.returned (.slice B q c2)) hm.out.symm, by rw [hm.out]; exact HO.out.mono s0, HB.out.trans (HW.out.mono s0)⟩
end
end Go.Proofs.YtfanpbfmnckmnaaGreat
