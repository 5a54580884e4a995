/- Tables: conditions, crossed variables, counts of cells, the tests; printed by gtb.py. -/
import Derived.Test.YtfanpbfmnckmnaaGreatTblP
import Derived.Test.YtfanpbfmnckmnaaGreatGeoB
import Derived.Test.YtfanpbfmnckmnaaGreatZg
import Derived.Deep.RegionHeld3
import Derived.BigQuiet
namespace Go.Proofs.YtfanpbfmnckmnaaGreat
open Go.RowKit

/-- What a table's lists read as. -/
structure TabR (w : World) (V : Option Addr) (m : Nat) (U : Option Addr) (k : Nat) (t : TabD) : Prop where
  v : IntR w V m t.vars
  u : IntR w U k t.wh
theorem TabR.below {w w' : World} {V U : Option Addr} {m k : Nat} {t : TabD} (h : TabR w V m U k t) (hb : Below w.heap.size w w') : TabR w' V m U k t := ⟨h.v.below hb, h.u.below hb⟩
theorem l1In_qT (x lo hi : Int) (W : World) : Calls Tryz.prog 108 #[.int .i64 x, .int .i64 lo, .int .i64 hi] W fun e w' => e = .returned (.bool (inR x lo hi)) ∧ w' = W := (l1In_any x lo hi W).mono fun _ _ ⟨h1, h2⟩ => ⟨h1, h2.symm⟩
theorem eight {x : Int} (h0 : 2 ≤ x) (h1 : x ≤ 8) : x = 2 ∨ x = 3 ∨ x = 4 ∨ x = 5 ∨ x = 6 ∨ x = 7 ∨ x = 8 := by omega
theorem whB_len {vs : List (ByteArray × Int)} {wh : List Int} {n k : Nat} (h1 : vs.length = n) (h2 : wh.length = k) (h : ¬ k = n) : false = whB vs wh := (whB_1 (by omega)).symm
theorem whB_bad {vs : List (ByteArray × Int)} {wh : List Int} {n i : Nat} (h1 : vs.length = n) (hi : i < n) (h : ¬ (0 ≤ wh[i]?.getD 0 ∧ wh[i]?.getD 0 ≤ 2 ^ (vL vs i).toNat - 1)) : false = whB vs wh := (whB_2 (i := i) (by omega) (inR_no h)).symm
theorem whB_end {vs : List (ByteArray × Int)} {wh : List Int} {n k : Nat} (h1 : vs.length = n) (h2 : wh.length = k) (h3 : k = n) (h : allTo (whOk vs wh) n = true) : true = whB vs wh := (whB_3 (by omega) (by rw [h1]; exact h)).symm

set_option maxRecDepth 100000 in
set_option maxHeartbeats 2000000 in
theorem fullSet_any (s : ByteArray) (L : Int) (w : World) (h0 : 2 ≤ L) (h1 : L ≤ 8) :
    Calls Tryz.prog 180 #[.agg #[.string s, .int .i64 L]] w fun e w' => e = .returned (.int .i64 (2 ^ L.toNat - 1)) ∧ Below w.heap.size w w' := by
  have hL := eight h0 h1
  clear h0 h1
  have b0 := below_new w (.cells #[.string s, .int .i64 L] 133)
  have x0 := box_new w #[.string s, .int .i64 L] 133
  have l0 := lt_of_block x0
  have c1 := box_cell x0 1 _ rfl
  have HB := Lib.hid b0
  clear b0 x0
  rcases hL with rfl | rfl | rfl | rfl | rfl | rfl | rfl
  all_goals (go_enter Tryz.func180, Tryz.ntmps180; go_wp2; go_ret; exact ⟨rfl, HB.out⟩)

set_option maxRecDepth 100000 in
set_option maxHeartbeats 2000000 in
theorem isWhere_any (A U : Option Addr) (n c k e : Nat) (vs : List (ByteArray × Int)) (wh : List Int) (w : World) (hx : SchR w A n c vs) (hu : IntR w U k wh) (hL : ∀ j, j < n → 2 ≤ vL vs j ∧ vL vs j ≤ 8) :
    Calls Tryz.prog 138 #[.slice A n c, .slice U k e] w fun e w' => e = .returned (.bool (whB vs wh)) ∧ Below w.heap.size w w' := by
  have hn := hx.bd
  have hk := hu.bd
  have hl := Lib.hid hx.len
  have hl2 := Lib.hid hu.len
  have HL := Lib.hid hL
  clear hL
  by_cases hkn : k = n
  rotate_left
  · have R := Lib.hid (whB_len hl.out hl2.out hkn)
    have hq : ((k : Int) != n) = true := by simpa using fun h => hkn (by exact_mod_cast h)
    clear hkn hx hu
    go_enter Tryz.func138, Tryz.ntmps138
    go_wp2
    go_ret
    exact ⟨ret_bool R.out, Below.refl _ _⟩
  subst hkn
  go_enter Tryz.func138, Tryz.ntmps138
  go_wp2
  go_loopw [14] (fun i wr => ∃ j : Nat, j ≤ k ∧ i = .int .i64 j ∧ Hid (allTo (whOk vs wh) j = true) ∧ Below w.heap.size w wr) (fun i _ => k - (intOf i).toNat)
  case atStart => exact ⟨0, Nat.zero_le _, rfl, Lib.hid (allTo_zero _), Below.refl _ _⟩
  case round =>
    obtain ⟨j, hj, rfl, ha, hbw⟩ := hrel
    by_cases hlt : j < k
    · obtain ⟨au, rfl, hcu⟩ := (hu.below hbw).i.at_ hlt
      obtain ⟨av, rfl, hcn, hcs⟩ := (hx.below hbw).v.at_ hlt
      have HN := Lib.hid (fun h => whB_bad (wh := wh) hl.out hlt h)
      have HA := Lib.hid (fun h => allTo_succ (p := whOk vs wh) ha.out (show whOk vs wh j = true from h))
      have hLj := HL.out j hlt
      obtain ⟨hL0, hL1⟩ := hLj
      obtain ⟨hp0, hp1⟩ := pow2_bd hL0 hL1
      clear hx hu ha
      unfold whOk at HA
      generalize vN vs j = s at *
      generalize vL vs j = L at *
      generalize wh[j]?.getD 0 = x at *
      have HBW := Lib.hid hbw
      generalize hT : (2 : Int) ^ L.toNat = T at *
      have HT := Lib.hid hT
      clear hbw hT
      by_cases h5 : x < 0
      · have R := Lib.hid (HN.out (by omega))
        go_wp2
        go_ret
        exact ⟨ret_bool R.out, HBW.out⟩
      go_wp2_with fail
      refine (fullSet_any s L _ hL0 hL1).mono ?_
      rintro e w5 ⟨rfl, b5⟩
      rw [HT.out]
      have HB5 := Lib.hid (HBW.out.trans (b5.mono HBW.out.size))
      clear b5 HBW hcu hcn hcs
      by_cases h6 : T - 1 < x
      · have R := Lib.hid (HN.out (by omega))
        go_wp2
        go_ret
        exact ⟨ret_bool R.out, HB5.out⟩
      have HA2 := Lib.hid (HA.out (inR_yes (by omega) (by omega)))
      clear HA HN
      go_wp2
      go_roundw
      case rel => exact ⟨j + 1, by omega, by go_num, HA2, HB5.out⟩
      case measure => simp [intOf]; omega
    · obtain rfl : j = k := by omega
      have R := Lib.hid (whB_end hl.out hl2.out rfl ha.out)
      clear hx hu
      go_wp2
      go_ret
      exact ⟨ret_bool R.out, hbw⟩

set_option maxRecDepth 100000 in
set_option maxHeartbeats 2000000 in
theorem uWhere_any (A U : Option Addr) (n c k e : Nat) (vs : List (ByteArray × Int)) (wh : List Int) (w : World) (hx : SchR w A n c vs) (hu : IntR w U k wh) (hL : ∀ j, j < n → 2 ≤ vL vs j ∧ vL vs j ≤ 8) :
    Calls Tryz.prog 132 #[.slice A n c, .slice U k e] w fun e w' => e = .returned (.bool (whB vs wh)) ∧ Below w.heap.size w w' := by
  have hn := hx.bd
  have hk := hu.bd
  have hl := Lib.hid hx.len
  have hl2 := Lib.hid hu.len
  have HL := Lib.hid hL
  clear hL
  by_cases hkn : k = n
  rotate_left
  · have R := Lib.hid (whB_len hl.out hl2.out hkn)
    have hq : ((k : Int) != n) = true := by simpa using fun h => hkn (by exact_mod_cast h)
    clear hkn hx hu
    go_enter Tryz.func132, Tryz.ntmps132
    go_wp2
    go_ret
    exact ⟨ret_bool R.out, Below.refl _ _⟩
  subst hkn
  go_enter Tryz.func132, Tryz.ntmps132
  go_wp2
  go_loopw [14] (fun i wr => ∃ j : Nat, j ≤ k ∧ i = .int .i64 j ∧ Hid (allTo (whOk vs wh) j = true) ∧ Below w.heap.size w wr) (fun i _ => k - (intOf i).toNat)
  case atStart => exact ⟨0, Nat.zero_le _, rfl, Lib.hid (allTo_zero _), Below.refl _ _⟩
  case round =>
    obtain ⟨j, hj, rfl, ha, hbw⟩ := hrel
    by_cases hlt : j < k
    · obtain ⟨au, rfl, hcu⟩ := (hu.below hbw).i.at_ hlt
      obtain ⟨av, rfl, hcn, hcs⟩ := (hx.below hbw).v.at_ hlt
      have HN := Lib.hid (fun h => whB_bad (wh := wh) hl.out hlt h)
      have HA := Lib.hid (fun h => allTo_succ (p := whOk vs wh) ha.out (show whOk vs wh j = true from h))
      have hLj := HL.out j hlt
      obtain ⟨hL0, hL1⟩ := hLj
      obtain ⟨hp0, hp1⟩ := pow2_bd hL0 hL1
      clear hx hu ha
      unfold whOk at HA
      generalize vN vs j = s at *
      generalize vL vs j = L at *
      generalize wh[j]?.getD 0 = x at *
      have HBW := Lib.hid hbw
      have h8 := eight hL0 hL1
      have hb2 := hbw.alloc hbw.size (.cells #[.string s, .int .i64 L] 133)
      have hcu2 := ((below_new wr (.cells #[.string s, .int .i64 L] 133)).cell (block_lt_of_cell hcu)).trans hcu
      have HB := Lib.hid hb2
      clear hbw hb2 HBW hp0 hp1 hL0 hL1
      cases h5 : inR x 0 (2 ^ L.toNat - 1)
      · have R := Lib.hid (HN.out (fun h => by rw [inR_yes h.1 h.2] at h5; cases h5))
        have H5 := Lib.hid h5
        clear h5 HN HA
        rcases h8 with rfl | rfl | rfl | rfl | rfl | rfl | rfl
        · have H6 := Lib.hid (show inR x 0 3 = false from H5.out)
          clear H5
          go_wp2
          go_quiet ((go_at_call 108; exact Calls.quiet_of_same (l1In_qT _ _ _ _)))
          rw [H6.out]
          go_wp2
          go_ret
          exact ⟨ret_bool R.out, below_drewN HB.out _⟩
        · have H6 := Lib.hid (show inR x 0 7 = false from H5.out)
          clear H5
          go_wp2
          go_quiet ((go_at_call 108; exact Calls.quiet_of_same (l1In_qT _ _ _ _)))
          rw [H6.out]
          go_wp2
          go_ret
          exact ⟨ret_bool R.out, below_drewN HB.out _⟩
        · have H6 := Lib.hid (show inR x 0 15 = false from H5.out)
          clear H5
          go_wp2
          go_quiet ((go_at_call 108; exact Calls.quiet_of_same (l1In_qT _ _ _ _)))
          rw [H6.out]
          go_wp2
          go_ret
          exact ⟨ret_bool R.out, below_drewN HB.out _⟩
        · have H6 := Lib.hid (show inR x 0 31 = false from H5.out)
          clear H5
          go_wp2
          go_quiet ((go_at_call 108; exact Calls.quiet_of_same (l1In_qT _ _ _ _)))
          rw [H6.out]
          go_wp2
          go_ret
          exact ⟨ret_bool R.out, below_drewN HB.out _⟩
        · have H6 := Lib.hid (show inR x 0 63 = false from H5.out)
          clear H5
          go_wp2
          go_quiet ((go_at_call 108; exact Calls.quiet_of_same (l1In_qT _ _ _ _)))
          rw [H6.out]
          go_wp2
          go_ret
          exact ⟨ret_bool R.out, below_drewN HB.out _⟩
        · have H6 := Lib.hid (show inR x 0 127 = false from H5.out)
          clear H5
          go_wp2
          go_quiet ((go_at_call 108; exact Calls.quiet_of_same (l1In_qT _ _ _ _)))
          rw [H6.out]
          go_wp2
          go_ret
          exact ⟨ret_bool R.out, below_drewN HB.out _⟩
        · have H6 := Lib.hid (show inR x 0 255 = false from H5.out)
          clear H5
          go_wp2
          go_quiet ((go_at_call 108; exact Calls.quiet_of_same (l1In_qT _ _ _ _)))
          rw [H6.out]
          go_wp2
          go_ret
          exact ⟨ret_bool R.out, below_drewN HB.out _⟩
      · have HA2 := Lib.hid (HA.out h5)
        have H5 := Lib.hid h5
        clear h5 HN HA
        rcases h8 with rfl | rfl | rfl | rfl | rfl | rfl | rfl
        · have H6 := Lib.hid (show inR x 0 3 = true from H5.out)
          clear H5
          go_wp2
          go_quiet ((go_at_call 108; exact Calls.quiet_of_same (l1In_qT _ _ _ _)))
          rw [H6.out]
          go_wp2
          go_roundw
          case rel => exact ⟨j + 1, by omega, by go_num, HA2, below_drewN HB.out _⟩
          case measure => simp [intOf]; omega
        · have H6 := Lib.hid (show inR x 0 7 = true from H5.out)
          clear H5
          go_wp2
          go_quiet ((go_at_call 108; exact Calls.quiet_of_same (l1In_qT _ _ _ _)))
          rw [H6.out]
          go_wp2
          go_roundw
          case rel => exact ⟨j + 1, by omega, by go_num, HA2, below_drewN HB.out _⟩
          case measure => simp [intOf]; omega
        · have H6 := Lib.hid (show inR x 0 15 = true from H5.out)
          clear H5
          go_wp2
          go_quiet ((go_at_call 108; exact Calls.quiet_of_same (l1In_qT _ _ _ _)))
          rw [H6.out]
          go_wp2
          go_roundw
          case rel => exact ⟨j + 1, by omega, by go_num, HA2, below_drewN HB.out _⟩
          case measure => simp [intOf]; omega
        · have H6 := Lib.hid (show inR x 0 31 = true from H5.out)
          clear H5
          go_wp2
          go_quiet ((go_at_call 108; exact Calls.quiet_of_same (l1In_qT _ _ _ _)))
          rw [H6.out]
          go_wp2
          go_roundw
          case rel => exact ⟨j + 1, by omega, by go_num, HA2, below_drewN HB.out _⟩
          case measure => simp [intOf]; omega
        · have H6 := Lib.hid (show inR x 0 63 = true from H5.out)
          clear H5
          go_wp2
          go_quiet ((go_at_call 108; exact Calls.quiet_of_same (l1In_qT _ _ _ _)))
          rw [H6.out]
          go_wp2
          go_roundw
          case rel => exact ⟨j + 1, by omega, by go_num, HA2, below_drewN HB.out _⟩
          case measure => simp [intOf]; omega
        · have H6 := Lib.hid (show inR x 0 127 = true from H5.out)
          clear H5
          go_wp2
          go_quiet ((go_at_call 108; exact Calls.quiet_of_same (l1In_qT _ _ _ _)))
          rw [H6.out]
          go_wp2
          go_roundw
          case rel => exact ⟨j + 1, by omega, by go_num, HA2, below_drewN HB.out _⟩
          case measure => simp [intOf]; omega
        · have H6 := Lib.hid (show inR x 0 255 = true from H5.out)
          clear H5
          go_wp2
          go_quiet ((go_at_call 108; exact Calls.quiet_of_same (l1In_qT _ _ _ _)))
          rw [H6.out]
          go_wp2
          go_roundw
          case rel => exact ⟨j + 1, by omega, by go_num, HA2, below_drewN HB.out _⟩
          case measure => simp [intOf]; omega
    · obtain rfl : j = k := by omega
      have R := Lib.hid (whB_end hl.out hl2.out rfl ha.out)
      clear hx hu
      go_wp2
      go_ret
      exact ⟨ret_bool R.out, hbw⟩
end Go.Proofs.YtfanpbfmnckmnaaGreat
