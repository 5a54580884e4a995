/- Several small texts in one: TblA, TblC, TblD. -/
import Derived.Test.YtfanpbfmnckmnaaGreatYe
import Derived.Test.YtfanpbfmnckmnaaGreatYi
import Derived.Test.YtfanpbfmnckmnaaGreatZg
import Derived.Deep.RegionHeld3
import Derived.BigQuiet
namespace Go.Proofs.YtfanpbfmnckmnaaGreat

section
open Go.RowKit

/-- What a table's lists read as. -/
structure TabR (w : World) (V : Option Addr) (m : Nat) (U : Option Addr) (k : Nat) (t : TabD) : Prop where
  v : IntR w V m t.vars
  u : IntR w U k t.wh
theorem TabR.below {w w' : World} {V U : Option Addr} {m k : Nat} {t : TabD} (h : TabR w V m U k t) (hb : Below w.heap.size w w') : TabR w' V m U k t := ⟨h.v.below hb, h.u.below hb⟩
theorem l1In_qT (x lo hi : Int) (W : World) : Calls Tryz.prog 108 #[.int .i64 x, .int .i64 lo, .int .i64 hi] W fun e w' => e = .returned (.bool (inR x lo hi)) ∧ w' = W := (l1In_any x lo hi W).mono fun _ _ ⟨h1, h2⟩ => ⟨h1, h2.symm⟩
theorem eight {x : Int} (h0 : 2 ≤ x) (h1 : x ≤ 8) : x = 2 ∨ x = 3 ∨ x = 4 ∨ x = 5 ∨ x = 6 ∨ x = 7 ∨ x = 8 := by omega
theorem whB_len {vs : List (ByteArray × Int)} {wh : List Int} {n k : Nat} (h1 : vs.length = n) (h2 : wh.length = k) (h : ¬ k = n) : false = whB vs wh := (whB_1 (by omega)).symm
theorem whB_bad {vs : List (ByteArray × Int)} {wh : List Int} {n i : Nat} (h1 : vs.length = n) (hi : i < n) (h : ¬ (0 ≤ wh[i]?.getD 0 ∧ wh[i]?.getD 0 ≤ 2 ^ (vL vs i).toNat - 1)) : false = whB vs wh := (whB_2 (i := i) (by omega) (inR_no h)).symm
theorem whB_end {vs : List (ByteArray × Int)} {wh : List Int} {n k : Nat} (h1 : vs.length = n) (h2 : wh.length = k) (h3 : k = n) (h : allTo (whOk vs wh) n = true) : true = whB vs wh := (whB_3 (by omega) (by rw [h1]; exact h)).symm

set_option maxRecDepth 100000 in
set_option maxHeartbeats 2000000 in
theorem fullSet_any (s : ByteArray) (L : Int) (w : World) (h0 : 2 ≤ L) (h1 : L ≤ 8) :
    Calls Tryz.prog 180 #[.agg #[.string s, .int .i64 L]] w fun e w' => e = .returned (.int .i64 (2 ^ L.toNat - 1)) ∧ Below w.heap.size w w' := by
  have hL := eight h0 h1
  clear h0 h1
  have b0 := below_new w (.cells #[.string s, .int .i64 L] 133)
  have x0 := box_new w #[.string s, .int .i64 L] 133
  have l0 := lt_of_block x0
  have c1 := bxc x0 1 _ rfl
  have HB := Lib.hid b0
  clear b0 x0
  rcases hL with rfl | rfl | rfl | rfl | rfl | rfl | rfl
  all_goals (go_enter Tryz.func180, Tryz.ntmps180; go_wp2; go_ret; exact ⟨rfl, HB.out⟩)

set_option maxRecDepth 100000 in
set_option maxHeartbeats 2000000 in
theorem isWhere_any (A U : Option Addr) (n c k e : Nat) (vs : List (ByteArray × Int)) (wh : List Int) (w : World) (hx : SchR w A n c vs) (hu : IntR w U k wh) (hL : ∀ j, j < n → 2 ≤ vL vs j ∧ vL vs j ≤ 8) :
    Calls Tryz.prog 138 #[.slice A n c, .slice U k e] w fun e w' => e = .returned (.bool (whB vs wh)) ∧ Below w.heap.size w w' := by
  have hn := hx.bd
  have hk := hu.bd
  have hl := Lib.hid hx.len
  have hl2 := Lib.hid hu.len
  have HL := Lib.hid hL
  clear hL
  by_cases hkn : k = n
  rotate_left
  · have R := Lib.hid (whB_len hl.out hl2.out hkn)
    have hq : ((k : Int) != n) = true := by simpa using fun h => hkn (by exact_mod_cast h)
    clear hkn hx hu
    go_enter Tryz.func138, Tryz.ntmps138
    go_wp2
    go_ret
    exact ⟨ret_bool R.out, Below.refl _ _⟩
  subst hkn
  go_enter Tryz.func138, Tryz.ntmps138
  go_wp2
  go_loopw [14] (fun i wr => ∃ j : Nat, j ≤ k ∧ i = .int .i64 j ∧ Hid (allTo (whOk vs wh) j = true) ∧ Below w.heap.size w wr) (fun i _ => k - (intOf i).toNat)
  case atStart => exact ⟨0, Nat.zero_le _, rfl, Lib.hid (allTo_zero _), Below.refl _ _⟩
  case round =>
    obtain ⟨j, hj, rfl, ha, hbw⟩ := hrel
    by_cases hlt : j < k
    · obtain ⟨au, rfl, hcu⟩ := (hu.below hbw).i.at_ hlt
      obtain ⟨av, rfl, hcn, hcs⟩ := (hx.below hbw).v.at_ hlt
      have HN := Lib.hid (fun h => whB_bad (wh := wh) hl.out hlt h)
      have HA := Lib.hid (fun h => allTo_succ (p := whOk vs wh) ha.out (show whOk vs wh j = true from h))
      have hLj := HL.out j hlt
      obtain ⟨hL0, hL1⟩ := hLj
      obtain ⟨hp0, hp1⟩ := pow2_bd hL0 hL1
      clear hx hu ha
      unfold whOk at HA
      generalize vN vs j = s at *
      generalize vL vs j = L at *
      generalize wh[j]?.getD 0 = x at *
      have HBW := Lib.hid hbw
      generalize hT : (2 : Int) ^ L.toNat = T at *
      have HT := Lib.hid hT
      clear hbw hT
      by_cases h5 : x < 0
      · have R := Lib.hid (HN.out (by omega))
        go_wp2
        go_ret
        exact ⟨ret_bool R.out, HBW.out⟩
      go_wp2_with fail
      refine (fullSet_any s L _ hL0 hL1).mono ?_
      rintro e w5 ⟨rfl, b5⟩
      rw [HT.out]
      have HB5 := Lib.hid (HBW.out.trans (b5.mono HBW.out.size))
      clear b5 HBW hcu hcn hcs
      by_cases h6 : T - 1 < x
      · have R := Lib.hid (HN.out (by omega))
        go_wp2
        go_ret
        exact ⟨ret_bool R.out, HB5.out⟩
      have HA2 := Lib.hid (HA.out (inR_yes (by omega) (by omega)))
      clear HA HN
      go_wp2
      go_roundw
      case rel => exact ⟨j + 1, by omega, by go_num, HA2, HB5.out⟩
      case measure => simp [intOf]; omega
    · obtain rfl : j = k := by omega
      have R := Lib.hid (whB_end hl.out hl2.out rfl ha.out)
      clear hx hu
      go_wp2
      go_ret
      exact ⟨ret_bool R.out, hbw⟩

set_option maxRecDepth 100000 in
set_option maxHeartbeats 2000000 in
theorem uWhere_any (A U : Option Addr) (n c k e : Nat) (vs : List (ByteArray × Int)) (wh : List Int) (w : World) (hx : SchR w A n c vs) (hu : IntR w U k wh) (hL : ∀ j, j < n → 2 ≤ vL vs j ∧ vL vs j ≤ 8) :
    Calls Tryz.prog 132 #[.slice A n c, .slice U k e] w fun e w' => e = .returned (.bool (whB vs wh)) ∧ Below w.heap.size w w' := by
  have hn := hx.bd
  have hk := hu.bd
  have hl := Lib.hid hx.len
  have hl2 := Lib.hid hu.len
  have HL := Lib.hid hL
  clear hL
  by_cases hkn : k = n
  rotate_left
  · have R := Lib.hid (whB_len hl.out hl2.out hkn)
    have hq : ((k : Int) != n) = true := by simpa using fun h => hkn (by exact_mod_cast h)
    clear hkn hx hu
    go_enter Tryz.func132, Tryz.ntmps132
    go_wp2
    go_ret
    exact ⟨ret_bool R.out, Below.refl _ _⟩
  subst hkn
  go_enter Tryz.func132, Tryz.ntmps132
  go_wp2
  go_loopw [14] (fun i wr => ∃ j : Nat, j ≤ k ∧ i = .int .i64 j ∧ Hid (allTo (whOk vs wh) j = true) ∧ Below w.heap.size w wr) (fun i _ => k - (intOf i).toNat)
  case atStart => exact ⟨0, Nat.zero_le _, rfl, Lib.hid (allTo_zero _), Below.refl _ _⟩
  case round =>
    obtain ⟨j, hj, rfl, ha, hbw⟩ := hrel
    by_cases hlt : j < k
    · obtain ⟨au, rfl, hcu⟩ := (hu.below hbw).i.at_ hlt
      obtain ⟨av, rfl, hcn, hcs⟩ := (hx.below hbw).v.at_ hlt
      have HN := Lib.hid (fun h => whB_bad (wh := wh) hl.out hlt h)
      have HA := Lib.hid (fun h => allTo_succ (p := whOk vs wh) ha.out (show whOk vs wh j = true from h))
      have hLj := HL.out j hlt
      obtain ⟨hL0, hL1⟩ := hLj
      obtain ⟨hp0, hp1⟩ := pow2_bd hL0 hL1
      clear hx hu ha
      unfold whOk at HA
      generalize vN vs j = s at *
      generalize vL vs j = L at *
      generalize wh[j]?.getD 0 = x at *
      have HBW := Lib.hid hbw
      have h8 := eight hL0 hL1
      have hb2 := hbw.alloc hbw.size (.cells #[.string s, .int .i64 L] 133)
      have hcu2 := ((below_new wr (.cells #[.string s, .int .i64 L] 133)).cell (block_lt_of_cell hcu)).trans hcu
      have HB := Lib.hid hb2
      clear hbw hb2 HBW hp0 hp1 hL0 hL1
      cases h5 : inR x 0 (2 ^ L.toNat - 1)
      · have R := Lib.hid (HN.out (fun h => by rw [inR_yes h.1 h.2] at h5; cases h5))
        have H5 := Lib.hid h5
        clear h5 HN HA
        rcases h8 with rfl | rfl | rfl | rfl | rfl | rfl | rfl
        · have H6 := Lib.hid (show inR x 0 3 = false from H5.out)
          clear H5
          go_wp2
          go_quiet ((go_at_call 108; exact Calls.quiet_of_same (l1In_qT _ _ _ _)))
          rw [H6.out]
          go_wp2
          go_ret
          exact ⟨ret_bool R.out, below_drewN HB.out _⟩
        · have H6 := Lib.hid (show inR x 0 7 = false from H5.out)
          clear H5
          go_wp2
          go_quiet ((go_at_call 108; exact Calls.quiet_of_same (l1In_qT _ _ _ _)))
          rw [H6.out]
          go_wp2
          go_ret
          exact ⟨ret_bool R.out, below_drewN HB.out _⟩
        · have H6 := Lib.hid (show inR x 0 15 = false from H5.out)
          clear H5
          go_wp2
          go_quiet ((go_at_call 108; exact Calls.quiet_of_same (l1In_qT _ _ _ _)))
          rw [H6.out]
          go_wp2
          go_ret
          exact ⟨ret_bool R.out, below_drewN HB.out _⟩
        · have H6 := Lib.hid (show inR x 0 31 = false from H5.out)
          clear H5
          go_wp2
          go_quiet ((go_at_call 108; exact Calls.quiet_of_same (l1In_qT _ _ _ _)))
          rw [H6.out]
          go_wp2
          go_ret
          exact ⟨ret_bool R.out, below_drewN HB.out _⟩
        · have H6 := Lib.hid (show inR x 0 63 = false from H5.out)
          clear H5
          go_wp2
          go_quiet ((go_at_call 108; exact Calls.quiet_of_same (l1In_qT _ _ _ _)))
          rw [H6.out]
          go_wp2
          go_ret
          exact ⟨ret_bool R.out, below_drewN HB.out _⟩
        · have H6 := Lib.hid (show inR x 0 127 = false from H5.out)
          clear H5
          go_wp2
          go_quiet ((go_at_call 108; exact Calls.quiet_of_same (l1In_qT _ _ _ _)))
          rw [H6.out]
          go_wp2
          go_ret
          exact ⟨ret_bool R.out, below_drewN HB.out _⟩
        · have H6 := Lib.hid (show inR x 0 255 = false from H5.out)
          clear H5
          go_wp2
          go_quiet ((go_at_call 108; exact Calls.quiet_of_same (l1In_qT _ _ _ _)))
          rw [H6.out]
          go_wp2
          go_ret
          exact ⟨ret_bool R.out, below_drewN HB.out _⟩
      · have HA2 := Lib.hid (HA.out h5)
        have H5 := Lib.hid h5
        clear h5 HN HA
        rcases h8 with rfl | rfl | rfl | rfl | rfl | rfl | rfl
        · have H6 := Lib.hid (show inR x 0 3 = true from H5.out)
          clear H5
          go_wp2
          go_quiet ((go_at_call 108; exact Calls.quiet_of_same (l1In_qT _ _ _ _)))
          rw [H6.out]
          go_wp2
          go_roundw
          case rel => exact ⟨j + 1, by omega, by go_num, HA2, below_drewN HB.out _⟩
          case measure => simp [intOf]; omega
        · have H6 := Lib.hid (show inR x 0 7 = true from H5.out)
          clear H5
          go_wp2
          go_quiet ((go_at_call 108; exact Calls.quiet_of_same (l1In_qT _ _ _ _)))
          rw [H6.out]
          go_wp2
          go_roundw
          case rel => exact ⟨j + 1, by omega, by go_num, HA2, below_drewN HB.out _⟩
          case measure => simp [intOf]; omega
        · have H6 := Lib.hid (show inR x 0 15 = true from H5.out)
          clear H5
          go_wp2
          go_quiet ((go_at_call 108; exact Calls.quiet_of_same (l1In_qT _ _ _ _)))
          rw [H6.out]
          go_wp2
          go_roundw
          case rel => exact ⟨j + 1, by omega, by go_num, HA2, below_drewN HB.out _⟩
          case measure => simp [intOf]; omega
        · have H6 := Lib.hid (show inR x 0 31 = true from H5.out)
          clear H5
          go_wp2
          go_quiet ((go_at_call 108; exact Calls.quiet_of_same (l1In_qT _ _ _ _)))
          rw [H6.out]
          go_wp2
          go_roundw
          case rel => exact ⟨j + 1, by omega, by go_num, HA2, below_drewN HB.out _⟩
          case measure => simp [intOf]; omega
        · have H6 := Lib.hid (show inR x 0 63 = true from H5.out)
          clear H5
          go_wp2
          go_quiet ((go_at_call 108; exact Calls.quiet_of_same (l1In_qT _ _ _ _)))
          rw [H6.out]
          go_wp2
          go_roundw
          case rel => exact ⟨j + 1, by omega, by go_num, HA2, below_drewN HB.out _⟩
          case measure => simp [intOf]; omega
        · have H6 := Lib.hid (show inR x 0 127 = true from H5.out)
          clear H5
          go_wp2
          go_quiet ((go_at_call 108; exact Calls.quiet_of_same (l1In_qT _ _ _ _)))
          rw [H6.out]
          go_wp2
          go_roundw
          case rel => exact ⟨j + 1, by omega, by go_num, HA2, below_drewN HB.out _⟩
          case measure => simp [intOf]; omega
        · have H6 := Lib.hid (show inR x 0 255 = true from H5.out)
          clear H5
          go_wp2
          go_quiet ((go_at_call 108; exact Calls.quiet_of_same (l1In_qT _ _ _ _)))
          rw [H6.out]
          go_wp2
          go_roundw
          case rel => exact ⟨j + 1, by omega, by go_num, HA2, below_drewN HB.out _⟩
          case measure => simp [intOf]; omega
    · obtain rfl : j = k := by omega
      have R := Lib.hid (whB_end hl.out hl2.out rfl ha.out)
      clear hx hu
      go_wp2
      go_ret
      exact ⟨ret_bool R.out, hbw⟩
end

section
open Go.RowKit

theorem partL_atN {vs : List (ByteArray × Int)} {us : List Int} {k i : Nat} (h : i < k) : vN (partL vs us k) i = vN vs (ix us i) := by simp [partL, vN, h]
theorem row_mono2 {w : World} {n : Nat} {lo : Nat} {T : TypeId} {sz : Nat} {v : Value} {ys : List Value} {lo' : Nat} (h : w.ownsRow lo T sz v n ys) (hl : lo' ≤ lo) : w.ownsRow lo' T sz v n ys := ⟨h.1, by
  rcases h.2 with h0 | ⟨g, cap, cur, hv, hb, hr⟩
  · exact .inl h0
  · exact .inr ⟨g, cap, cur, hv, by omega, hr⟩⟩
theorem cnt_bd {a : Nat} {b : Int} (ha : a ≤ 30) (h0 : 1 ≤ b) (h1 : b ≤ 262144) : 0 ≤ (a : Int) * b ∧ (a : Int) * b ≤ 7864320 := by
  have e1 : 0 ≤ (a : Int) * b := Int.mul_nonneg (by omega) (by omega)
  have e2 : (a : Int) * b ≤ 30 * 262144 := Int.mul_le_mul (by omega) h1 (by omega) (by omega)
  omega
theorem risB_lenD {xs : List Int} {n : Nat} {vs : List (ByteArray × Int)} (h : vs.length = n) (h2 : risB xs n = false) : risB xs vs.length = false := by rw [h]; exact h2

set_option maxRecDepth 100000 in
set_option maxHeartbeats 2000000 in
theorem crossed_any (A V U : Option Addr) (n c m d k e : Nat) (t : TabD) (vs : List (ByteArray × Int)) (w : World) (hx : SchR w A n c vs) (ht : TabR w V m U k t) (hk : PartOk vs t.vars n) :
    Calls Tryz.prog 183 #[.slice A n c, .agg #[.int .i64 t.lv, .slice V m d, .slice U k e, .int .i64 t.sum]] w fun e w' => ∃ A' c', e = .returned (.slice A' m c') ∧ OwnV w' w.heap.size w'.heap.size A' m c' (partL vs t.vars m) ∧ Below w.heap.size w w' := by
  have hl := Lib.hid ht.v.len
  have hl6 : m ≤ 6 := by have := hk.six; rw [hl.out] at this; exact this
  obtain ⟨i0, hi, hz0, hz1, hz2⟩ := info_parts Tryz.infoVariable
  have b0 := below_new w (.cells #[.int .i64 t.lv, .slice V m d, .slice U k e, .int .i64 t.sum] 56)
  have x0 := box_new w #[.int .i64 t.lv, .slice V m d, .slice U k e, .int .i64 t.sum] 56
  have X0 := Lib.hid x0
  have HX := Lib.hid (hx.below b0)
  have HU := Lib.hid (ht.v.below b0)
  have HB := Lib.hid b0
  have c1 := bxc x0 1 _ rfl
  have l0 := lt_of_block x0
  clear hx ht b0 x0
  go_enter Tryz.func183, Tryz.ntmps183
  obtain ⟨w0, hw0⟩ : ∃ x, w.alloc (.cells #[.int .i64 t.lv, .slice V m d, .slice U k e, .int .i64 t.sum] 56) = x := ⟨_, rfl⟩
  have HW0 := Lib.hid hw0
  rw [hw0] at X0 HX HU HB c1 l0
  clear hw0
  go_wp2_with (at_make; rw [HW0.out]; refine wpList_make_full _ rfl _ _ 37 rfl w0.heap.size 133 i0 _ 2 Tryz.underlying37 hi hz0 hz1 .i64 .i64 _ _ m rfl rfl rfl rfl (by rw [hz2]; omega) (by unfold maxLen; omega) (Nat.le_refl _) ?_; intro w1 hown hg; have hb1 : Below w0.heap.size w0 w1 := (Below.refl _ _).grown hg (Nat.le_refl _) (by simp); have x1 := bxb X0.out hb1; have hs1 := hb1.size; clear c1; have c1 := bxc x1 1 _ rfl; have l1 := lt_of_block x1)
  have hA : AgreeV (partL vs t.vars m) (madeCells (Value.agg #[.string ByteArray.empty, .int .i64 0]).cells (m * 2)).toList m 0 := ⟨hown.1, fun t ht => absurd ht (by omega)⟩
  generalize (madeCells (Value.agg #[.string ByteArray.empty, .int .i64 0]).cells (m * 2)).toList = y0 at *
  clear hg hi hz0 hz1 hz2 c1 x1 l1 X0
  go_loopw [15] (fun i wr => ∃ (j : Nat) (ys : List Value), j ≤ m ∧ i = .int .i64 j ∧ AgreeV (partL vs t.vars m) ys m j ∧ wr.ownsRow w0.heap.size 133 2 (.slice (some ⟨w0.heap.size, 0, none⟩) m m) m ys ∧ Below w0.heap.size w0 wr) (fun i _ => m - (intOf i).toNat)
  case atStart => exact ⟨0, _, Nat.zero_le _, rfl, hA, hown, hb1⟩
  case round =>
    clear hA hown hb1
    obtain ⟨j, ys, hj, rfl, hag, hown, hbw⟩ := hrel
    have s0 := HB.out.size
    by_cases hlt : j < m
    · have hju : j < t.vars.length := by rw [hl.out]; exact hlt
      obtain ⟨hi1, hi2⟩ := hk.ix_lt hju
      obtain ⟨au, rfl, hcu⟩ := (HU.out.below hbw).i.at_ hlt
      obtain ⟨asv, rfl, hcn, hcs⟩ := (HX.out.below hbw).v.at_ hi1
      rw [hi2] at hcu
      have R1 := Lib.hid (hag.step (partL_len vs t.vars m) hlt)
      rw [partL_atN hlt, partL_at hlt] at R1
      generalize ix t.vars j = q at *
      generalize vL vs q = L at *
      generalize vN vs q = s at *
      obtain ⟨⟨u0, hu0⟩, ⟨u1, hu1⟩, hf0, hf1⟩ := row_two hown hlt
      have HO := Lib.hid hown
      have HW := Lib.hid hbw
      clear hi2 hju hag hown hbw
      go_wp2
      go_roundw
      case rel => exact ⟨j + 1, _, by omega, by go_num, R1.out, (World.ownsRow.stored (World.ownsRow.stored HO.out (j * 2) (.string s)).1 (j * 2 + 1) (.int .i64 L)).1, (HW.out.setCell (Nat.le_refl _) _).setCell (Nat.le_refl _) _⟩
      case measure => simp [intOf]; omega
    · have R := hag.fin (partL_len vs t.vars m) (by omega)
      subst R
      have HO := Lib.hid hown
      have HW := Lib.hid hbw
      clear hag hown hbw
      go_wp2
      go_ret
      exact ⟨_, _, rfl, ⟨row_mono2 HO.out s0, fun g hg => (World.ownsRow.lt HO.out g (by simpa [rowOf, Value.ownBlock] using hg)).2, by omega⟩, HB.out.trans (HW.out.mono s0)⟩

set_option maxRecDepth 100000 in
set_option maxHeartbeats 2000000 in
theorem combinations_any (A : Option Addr) (n c l : Nat) (vs : List (ByteArray × Int)) (us : List Int) (w : World) (hx : VarsR w A l (partL vs us l)) (hl : us.length = l) (hk : PartOk vs us n) :
    Calls Tryz.prog 182 #[.slice A l c] w fun e w' => e = .returned (.int .i64 (prodN vs us l)) ∧ Below w.heap.size w w' := by
  have hl' := Lib.hid hl
  have hl6 : l ≤ 6 := by have := hk.six; rw [hl] at this; exact this
  clear hl
  have HX := Lib.hid hx
  clear hx
  go_enter Tryz.func182, Tryz.ntmps182
  go_wp2
  go_loopw [3, 8] (fun a i wr => ∃ j : Nat, j ≤ l ∧ i = .int .i64 j ∧ a = .int .i64 (prodN vs us j) ∧ Below w.heap.size w wr) (fun _ i _ => l - (intOf i).toNat)
  case atStart => exact ⟨0, Nat.zero_le _, rfl, rfl, Below.refl _ _⟩
  case round =>
    obtain ⟨j, hj, rfl, rfl, hbw⟩ := hrel
    by_cases hlt : j < l
    · have hju : j < us.length := by rw [hl'.out]; exact hlt
      obtain ⟨hs1, hs2⟩ := hk.step hju
      have ha := hk.at_ hju
      obtain ⟨asv, rfl, hcn, hcs⟩ := (HX.out.below hbw).at_ hlt
      rw [partL_at hlt] at hcs
      have R := Lib.hid (show prodN vs us j * vL vs (ix us j) = prodN vs us (j + 1) from rfl)
      generalize vL vs (ix us j) = L at *
      generalize prodN vs us j = a at *
      generalize vN (partL vs us l) j = s at *
      have hb2 := Lib.hid (hbw.alloc hbw.size (.cells #[.string s, .int .i64 L] 133))
      clear hbw hju
      go_wp2
      rw [R.out]
      go_roundw
      case rel => exact ⟨j + 1, by omega, by go_num, rfl, hb2.out⟩
      case measure => simp [intOf]; omega
    · obtain rfl : j = l := by omega
      go_wp2
      go_ret
      exact ⟨rfl, hbw⟩

set_option maxRecDepth 100000 in
set_option maxHeartbeats 2000000 in
theorem indexOfValues_any (A V : Option Addr) (n c l d : Nat) (vs : List (ByteArray × Int)) (xs us : List Int) (w : World) (hx : VarsR w A l (partL vs us l)) (hy : Ints w V l (pickL xs us l)) (hl : us.length = l) (hk : KeyOk vs xs us n) :
    Calls Tryz.prog 213 #[.slice A l c, .slice V l d] w fun e w' => e = .returned (.int .i64 (keyV vs xs us)) ∧ w = w' := by
  have hl' := Lib.hid hl
  have hl6 : l ≤ 6 := by have := hk.six; rw [hl] at this; exact this
  clear hl
  have HX := Lib.hid hx
  have HY := Lib.hid hy
  clear hx hy
  go_enter Tryz.func213, Tryz.ntmps213
  go_wp2
  go_loop [5, 10] (fun a i => ∃ j : Nat, j ≤ l ∧ i = .int .i64 j ∧ a = .int .i64 (keyN vs xs us j)) (fun _ i => l - (intOf i).toNat)
  case atStart => exact ⟨0, Nat.zero_le _, rfl, rfl⟩
  case round =>
    obtain ⟨j, hj, rfl, rfl⟩ := hrel
    by_cases hlt : j < l
    · have hju : j < us.length := by rw [hl'.out]; exact hlt
      obtain ⟨hs1, hs2⟩ := hk.step hju
      have ha := hk.at_ hju
      obtain ⟨asv, rfl, hcn, hcs⟩ := HX.out.at_ hlt
      obtain ⟨av, rfl, hcv⟩ := HY.out.at_ hlt
      rw [partL_at hlt] at hcs
      rw [pickL_at hlt] at hcv
      have R := Lib.hid (show keyN vs xs us j * vL vs (ix us j) + xs[ix us j]?.getD 0 = keyN vs xs us (j + 1) from rfl)
      generalize vL vs (ix us j) = L at *
      generalize xs[ix us j]?.getD 0 = v at *
      generalize keyN vs xs us j = a at *
      obtain ⟨p, hp⟩ : ∃ p, a * L = p := ⟨_, rfl⟩
      rw [hp] at hs2 R
      have hw1 : IntKind.i64.wrap (a * L) = p := by rw [hp]; exact IntWalk.i64_in _ (by omega)
      have hw2 : IntKind.i64.wrap (p + v) = p + v := IntWalk.i64_in _ (by omega)
      have HP := Lib.hid hp
      clear hju hp HX HY hcn
      go_wp2
      try rw [HP.out]
      rw [R.out]
      go_round
      case rel => exact ⟨j + 1, by omega, by go_num, rfl⟩
      case measure => simp [intOf]; omega
    · obtain rfl : j = l := by omega
      have R := Lib.hid (show keyN vs xs us j = keyV vs xs us by unfold keyV; rw [hl'.out])
      go_wp2
      go_ret
      exact ⟨ret_int R.out, rfl⟩

set_option maxRecDepth 100000 in
set_option maxHeartbeats 2000000 in
theorem cellCount_any (P A V U : Option Addr) (g cg n c m d k e : Nat) (ps : List Int) (t : TabD) (vs : List (ByteArray × Int)) (w : World) (hg : GeoOk ps g) (hX : IntR w P g ps) (hS : SchR w A n c vs) (hT : TabR w V m U k t) (hk : PartOk vs t.vars n) :
    Calls Tryz.prog 139 #[.agg #[.slice P g cg], .slice A n c, .agg #[.int .i64 t.lv, .slice V m d, .slice U k e, .int .i64 t.sum]] w fun e w' => e = .returned (.int .i64 (((lvl ps t.lv g).length : Int) * prodN vs t.vars t.vars.length)) ∧ Below w.heap.size w w' := by
  have hl := Lib.hid hT.v.len
  have HG := Lib.hid hg
  have HK := Lib.hid hk
  have hp := hk.prod
  have hlv := Nat.le_trans (lvl_len (ps := ps) (v := t.lv) g) hg.most
  obtain ⟨LN, hLN⟩ : ∃ x, (lvl ps t.lv g).length = x := ⟨_, rfl⟩
  obtain ⟨PR, hPR⟩ : ∃ x, prodN vs t.vars t.vars.length = x := ⟨_, rfl⟩
  rw [hLN] at hlv ⊢
  rw [hPR] at hp ⊢
  have HLN := Lib.hid hLN
  have HPR := Lib.hid (show prodN vs t.vars m = PR by rw [← hl.out]; exact hPR)
  have hbd := cnt_bd hlv hp.1 hp.2
  have hw1 : IntKind.i64.wrap ((LN : Int) * PR) = (LN : Int) * PR := IntWalk.i64_in _ (by omega)
  obtain ⟨b0, xg, xt⟩ := box_two w #[.slice P g cg] #[.int .i64 t.lv, .slice V m d, .slice U k e, .int .i64 t.sum] 36 56
  replace hX := hX.below b0
  replace hS := hS.below b0
  replace hT := hT.below b0
  have HB := Lib.hid b0
  clear hg hk b0 hLN hPR hp hbd
  go_enter Tryz.func139, Tryz.ntmps139
  have lg := lt_of_block xg
  have lt := lt_of_block xt
  go_wp2_with fail
  clear lg lt
  generalize (w.alloc (.cells #[.slice P g cg] 36)).alloc (.cells #[.int .i64 t.lv, .slice V m d, .slice U k e, .int .i64 t.sum] 56) = w0 at *
  have s0 := HB.out.size
  have BL := (Below.refl w0.heap.size w0).drew
  replace xg : w0.drew.heap[w.heap.size]? = _ := xg
  replace xt : w0.drew.heap[w.heap.size + 1]? = _ := xt
  have lg := lt_of_block xg
  have lt := lt_of_block xt
  go_region_held3 (fun w' => w'.cell? ⟨w.heap.size, 0, none⟩ = some (.slice P g cg) ∧ w'.cell? ⟨w.heap.size + 1, 0, none⟩ = some (.int .i64 t.lv) ∧ w'.cell? ⟨w.heap.size + 1, 1, none⟩ = some (.slice V m d) ∧ w'.cell? ⟨w.heap.size + 1, 2, none⟩ = some (.slice U k e) ∧ w'.cell? ⟨w.heap.size + 1, 3, none⟩ = some (.int .i64 t.sum)) (exact ⟨bxc xg 0 _ rfl, bxc xt 0 _ rfl, bxc xt 1 _ rfl, bxc xt 2 _ rfl, bxc xt 3 _ rfl⟩) (first
        | (go_at_call 181; refine (areasAt_any P g cg ps t.lv _ (hX.below BL) HG.out).mono ?_; rintro e wq ⟨Aa, ca, rfl, oa, bq⟩; clear oa; rw [HLN.out]; replace xg := bxb xg bq; replace xt := bxb xt bq; (first | (replace oV := oV.below bq) | skip); replace BL := BL.trans (bq.mono BL.size); clear bq)
        | (go_at_call 183; refine (crossed_any A V U n c m d k e t vs _ (hS.below BL) (hT.below BL) HK.out).mono ?_; rintro e wq ⟨Ax, cx, rfl, oV, bq⟩; replace xg := bxb xg bq; replace xt := bxb xt bq; replace BL := BL.trans (bq.mono BL.size); clear bq)
        | (go_at_call 182; refine (combinations_any _ n _ m vs t.vars _ oV.vars hl.out HK.out).mono ?_; rintro e wq ⟨rfl, bq⟩; rw [HPR.out]; replace xg := bxb xg bq; replace xt := bxb xt bq; (first | (replace oV := oV.below bq) | skip); replace BL := BL.trans (bq.mono BL.size); clear bq))
  all_goals (go_wp2; go_ret; exact ⟨rfl, HB.out.trans (BL.mono s0)⟩)

set_option maxRecDepth 100000 in
set_option maxHeartbeats 2000000 in
theorem uCount_any (P A V U : Option Addr) (g cg n c m d k e : Nat) (ps : List Int) (t : TabD) (vs : List (ByteArray × Int)) (w : World) (hg : GeoOk ps g) (hX : IntR w P g ps) (hS : SchR w A n c vs) (hT : TabR w V m U k t) (hk : PartOk vs t.vars n) :
    Calls Tryz.prog 133 #[.agg #[.slice P g cg], .slice A n c, .agg #[.int .i64 t.lv, .slice V m d, .slice U k e, .int .i64 t.sum]] w fun e w' => e = .returned (.int .i64 (((lvl ps t.lv g).length : Int) * prodN vs t.vars t.vars.length)) ∧ Below w.heap.size w w' := by
  have hl := Lib.hid hT.v.len
  have HG := Lib.hid hg
  have HK := Lib.hid hk
  have hp := hk.prod
  have hlv := Nat.le_trans (lvl_len (ps := ps) (v := t.lv) g) hg.most
  obtain ⟨LN, hLN⟩ : ∃ x, (lvl ps t.lv g).length = x := ⟨_, rfl⟩
  obtain ⟨PR, hPR⟩ : ∃ x, prodN vs t.vars t.vars.length = x := ⟨_, rfl⟩
  rw [hLN] at hlv ⊢
  rw [hPR] at hp ⊢
  have HLN := Lib.hid hLN
  have HPR := Lib.hid (show prodN vs t.vars m = PR by rw [← hl.out]; exact hPR)
  have hbd := cnt_bd hlv hp.1 hp.2
  have hw1 : IntKind.i64.wrap ((LN : Int) * PR) = (LN : Int) * PR := IntWalk.i64_in _ (by omega)
  obtain ⟨b0, xg, xt⟩ := box_two w #[.slice P g cg] #[.int .i64 t.lv, .slice V m d, .slice U k e, .int .i64 t.sum] 36 56
  replace hX := hX.below b0
  replace hS := hS.below b0
  replace hT := hT.below b0
  have HB := Lib.hid b0
  clear hg hk b0 hLN hPR hp hbd
  go_enter Tryz.func133, Tryz.ntmps133
  have lg := lt_of_block xg
  have lt := lt_of_block xt
  go_wp2_with fail
  clear lg lt
  generalize (w.alloc (.cells #[.slice P g cg] 36)).alloc (.cells #[.int .i64 t.lv, .slice V m d, .slice U k e, .int .i64 t.sum] 56) = w0 at *
  have s0 := HB.out.size
  have BL := (Below.refl w0.heap.size w0).drew
  replace xg : w0.drew.heap[w.heap.size]? = _ := xg
  replace xt : w0.drew.heap[w.heap.size + 1]? = _ := xt
  have lg := lt_of_block xg
  have lt := lt_of_block xt
  go_region_held3 (fun w' => w'.cell? ⟨w.heap.size, 0, none⟩ = some (.slice P g cg) ∧ w'.cell? ⟨w.heap.size + 1, 0, none⟩ = some (.int .i64 t.lv) ∧ w'.cell? ⟨w.heap.size + 1, 1, none⟩ = some (.slice V m d) ∧ w'.cell? ⟨w.heap.size + 1, 2, none⟩ = some (.slice U k e) ∧ w'.cell? ⟨w.heap.size + 1, 3, none⟩ = some (.int .i64 t.sum)) (exact ⟨bxc xg 0 _ rfl, bxc xt 0 _ rfl, bxc xt 1 _ rfl, bxc xt 2 _ rfl, bxc xt 3 _ rfl⟩) (first
        | (go_at_call 130; refine (gLevel_any P g cg ps t.lv _ (hX.below BL) HG.out).mono ?_; rintro e wq ⟨Aa, ca, rfl, oa, bq⟩; clear oa; rw [HLN.out]; replace xg := bxb xg bq; replace xt := bxb xt bq; (first | (replace oV := oV.below bq) | skip); replace BL := BL.trans (bq.mono BL.size); clear bq)
        | (go_at_call 177; refine (sPart_any A V n c m d vs t.vars _ (hS.below BL) (hT.below BL).v HK.out).mono ?_; rintro e wq ⟨Ax, cx, rfl, oV, bq⟩; replace xg := bxb xg bq; replace xt := bxb xt bq; replace BL := BL.trans (bq.mono BL.size); clear bq)
        | (go_at_call 176; refine (sCount_any _ n _ m vs t.vars _ oV.vars hl.out HK.out).mono ?_; rintro e wq ⟨rfl, bq⟩; rw [HPR.out]; replace xg := bxb xg bq; replace xt := bxb xt bq; (first | (replace oV := oV.below bq) | skip); replace BL := BL.trans (bq.mono BL.size); clear bq))
  all_goals (go_wp2; go_ret; exact ⟨rfl, HB.out.trans (BL.mono s0)⟩)
end

section
open Go.RowKit

/-- Geography, schema and table are valid. -/
def allB (ps : List Int) (vs : List (ByteArray × Int)) (t : TabD) : Bool := geoB ps && (schB vs && tabB ps vs t)
theorem allB_1 {ps : List Int} {vs : List (ByteArray × Int)} {t : TabD} (h : geoB ps = false) : false = allB ps vs t := by unfold allB; rw [h]; rfl
theorem allB_2 {ps : List Int} {vs : List (ByteArray × Int)} {t : TabD} (h : schB vs = false) : false = allB ps vs t := by unfold allB; rw [h]; simp
theorem allB_3 {ps : List Int} {vs : List (ByteArray × Int)} {t : TabD} (h : tabB ps vs t = false) : false = allB ps vs t := by unfold allB; rw [h]; simp
theorem allB_4 {ps : List Int} {vs : List (ByteArray × Int)} {t : TabD} (h1 : geoB ps = true) (h2 : schB vs = true) (h : tabB ps vs t = true) : true = allB ps vs t := by unfold allB; rw [h1, h2, h]; rfl
theorem risB_lenT {xs : List Int} {n : Nat} {vs : List (ByteArray × Int)} (h : vs.length = n) (h2 : risB xs n = true) : risB xs vs.length = true := by rw [h]; exact h2

set_option maxRecDepth 100000 in
set_option maxHeartbeats 2000000 in
theorem isTable_any (P A V U : Option Addr) (g cg n c m d k e : Nat) (ps : List Int) (t : TabD) (vs : List (ByteArray × Int)) (w : World) (hg : GeoOk ps g) (hs : schB vs = true) (hX : IntR w P g ps) (hS : SchR w A n c vs) (hT : TabR w V m U k t) :
    Calls Tryz.prog 76 #[.agg #[.slice P g cg], .slice A n c, .agg #[.int .i64 t.lv, .slice V m d, .slice U k e, .int .i64 t.sum]] w fun e w' => e = .returned (.bool (tabB ps vs t)) ∧ Below w.heap.size w w' := by
  have hl := Lib.hid hS.len
  have hn := hS.bd
  have HG := Lib.hid hg
  have hgl := Lib.hid hg.len
  have HL := Lib.hid (hS.lev hs)
  clear hg
  cases h0 : risB t.vars n
  · have R := Lib.hid (tabB_1 (ps := ps) (t := t) (risB_lenD hl.out h0)).symm
    have H0 := Lib.hid h0
    clear h0
    obtain ⟨b0, xg, xt⟩ := box_two w #[.slice P g cg] #[.int .i64 t.lv, .slice V m d, .slice U k e, .int .i64 t.sum] 36 56
    replace hX := hX.below b0
    replace hS := hS.below b0
    replace hT := hT.below b0
    have HB := Lib.hid b0
    have Xg := Lib.hid xg
    have Xt := Lib.hid xt
    clear b0 xg xt
    go_enter Tryz.func76, Tryz.ntmps76
    have lt := lt_of_block Xt.out
    have ct1 := bxc Xt.out 1 _ rfl
    go_wp2_with fail
    clear lt ct1
    generalize (w.alloc (.cells #[.slice P g cg] 36)).alloc (.cells #[.int .i64 t.lv, .slice V m d, .slice U k e, .int .i64 t.sum] 56) = w0 at *
    refine (areVars_any _ _ n _ m _ t.vars _ hS.bd hT.v).mono ?_
    rintro e w1 ⟨rfl, rfl⟩
    rw [H0.out]
    go_wp2
    go_ret
    exact ⟨ret_bool R.out, HB.out⟩
  have H0 := Lib.hid h0
  have HK := Lib.hid (show PartOk vs t.vars n from ⟨hS.len, hs, h0⟩)
  clear h0
  cases h1 : whB vs t.wh
  · have R := Lib.hid (tabB_2 (ps := ps) (t := t) h1).symm
    have H1 := Lib.hid h1
    clear h1
    obtain ⟨b0, xg, xt⟩ := box_two w #[.slice P g cg] #[.int .i64 t.lv, .slice V m d, .slice U k e, .int .i64 t.sum] 36 56
    replace hX := hX.below b0
    replace hS := hS.below b0
    replace hT := hT.below b0
    have HB := Lib.hid b0
    have Xg := Lib.hid xg
    have Xt := Lib.hid xt
    clear b0 xg xt
    go_enter Tryz.func76, Tryz.ntmps76
    have lt := lt_of_block Xt.out
    have ct1 := bxc Xt.out 1 _ rfl
    go_wp2_with fail
    clear lt ct1
    generalize (w.alloc (.cells #[.slice P g cg] 36)).alloc (.cells #[.int .i64 t.lv, .slice V m d, .slice U k e, .int .i64 t.sum] 56) = w0 at *
    refine (areVars_any _ _ n _ m _ t.vars _ hS.bd hT.v).mono ?_
    rintro e w1 ⟨rfl, rfl⟩
    rw [H0.out]
    have lt := lt_of_block Xt.out
    have ct2 := bxc Xt.out 2 _ rfl
    go_wp2_with fail
    clear lt ct2
    refine (isWhere_any _ _ n _ k _ vs t.wh _ hS hT.u HL.out).mono ?_
    rintro e w2 ⟨rfl, b2⟩
    rw [H1.out]
    replace Xg := Lib.hid (bxb Xg.out b2)
    replace Xt := Lib.hid (bxb Xt.out b2)
    replace hX := hX.below b2
    replace hS := hS.below b2
    replace hT := hT.below b2
    replace HB := Lib.hid (HB.out.trans (b2.mono HB.out.size))
    clear b2
    go_wp2
    go_ret
    exact ⟨ret_bool R.out, HB.out⟩
  have H1 := Lib.hid h1
  clear h1
  by_cases h2 : t.sum < -1
  · have R := Lib.hid (tabB_3 (ps := ps) (t := t) (inR_no (show ¬ (-1 ≤ t.sum ∧ t.sum ≤ (vs.length : Int) - 1) by rw [hl.out]; omega))).symm
    obtain ⟨b0, xg, xt⟩ := box_two w #[.slice P g cg] #[.int .i64 t.lv, .slice V m d, .slice U k e, .int .i64 t.sum] 36 56
    replace hX := hX.below b0
    replace hS := hS.below b0
    replace hT := hT.below b0
    have HB := Lib.hid b0
    have Xg := Lib.hid xg
    have Xt := Lib.hid xt
    clear b0 xg xt
    go_enter Tryz.func76, Tryz.ntmps76
    have lt := lt_of_block Xt.out
    have ct1 := bxc Xt.out 1 _ rfl
    go_wp2_with fail
    clear lt ct1
    generalize (w.alloc (.cells #[.slice P g cg] 36)).alloc (.cells #[.int .i64 t.lv, .slice V m d, .slice U k e, .int .i64 t.sum] 56) = w0 at *
    refine (areVars_any _ _ n _ m _ t.vars _ hS.bd hT.v).mono ?_
    rintro e w1 ⟨rfl, rfl⟩
    rw [H0.out]
    have lt := lt_of_block Xt.out
    have ct2 := bxc Xt.out 2 _ rfl
    go_wp2_with fail
    clear lt ct2
    refine (isWhere_any _ _ n _ k _ vs t.wh _ hS hT.u HL.out).mono ?_
    rintro e w2 ⟨rfl, b2⟩
    rw [H1.out]
    replace Xg := Lib.hid (bxb Xg.out b2)
    replace Xt := Lib.hid (bxb Xt.out b2)
    replace hX := hX.below b2
    replace hS := hS.below b2
    replace hT := hT.below b2
    replace HB := Lib.hid (HB.out.trans (b2.mono HB.out.size))
    clear b2
    have lt := lt_of_block Xt.out
    have ct3 := bxc Xt.out 3 _ rfl
    go_wp2
    go_ret
    exact ⟨ret_bool R.out, HB.out⟩
  have g1 := h2
  clear h2
  by_cases h2 : (n : Int) ≤ t.sum
  · have R := Lib.hid (tabB_3 (ps := ps) (t := t) (inR_no (show ¬ (-1 ≤ t.sum ∧ t.sum ≤ (vs.length : Int) - 1) by rw [hl.out]; omega))).symm
    obtain ⟨b0, xg, xt⟩ := box_two w #[.slice P g cg] #[.int .i64 t.lv, .slice V m d, .slice U k e, .int .i64 t.sum] 36 56
    replace hX := hX.below b0
    replace hS := hS.below b0
    replace hT := hT.below b0
    have HB := Lib.hid b0
    have Xg := Lib.hid xg
    have Xt := Lib.hid xt
    clear b0 xg xt
    go_enter Tryz.func76, Tryz.ntmps76
    have lt := lt_of_block Xt.out
    have ct1 := bxc Xt.out 1 _ rfl
    go_wp2_with fail
    clear lt ct1
    generalize (w.alloc (.cells #[.slice P g cg] 36)).alloc (.cells #[.int .i64 t.lv, .slice V m d, .slice U k e, .int .i64 t.sum] 56) = w0 at *
    refine (areVars_any _ _ n _ m _ t.vars _ hS.bd hT.v).mono ?_
    rintro e w1 ⟨rfl, rfl⟩
    rw [H0.out]
    have lt := lt_of_block Xt.out
    have ct2 := bxc Xt.out 2 _ rfl
    go_wp2_with fail
    clear lt ct2
    refine (isWhere_any _ _ n _ k _ vs t.wh _ hS hT.u HL.out).mono ?_
    rintro e w2 ⟨rfl, b2⟩
    rw [H1.out]
    replace Xg := Lib.hid (bxb Xg.out b2)
    replace Xt := Lib.hid (bxb Xt.out b2)
    replace hX := hX.below b2
    replace hS := hS.below b2
    replace hT := hT.below b2
    replace HB := Lib.hid (HB.out.trans (b2.mono HB.out.size))
    clear b2
    have lt := lt_of_block Xt.out
    have ct3 := bxc Xt.out 3 _ rfl
    go_wp2
    go_ret
    exact ⟨ret_bool R.out, HB.out⟩
  have g2 := h2
  clear h2
  have H2 := Lib.hid (inR_yes (show -1 ≤ t.sum by omega) (show t.sum ≤ (vs.length : Int) - 1 by rw [hl.out]; omega))
  have HC := Lib.hid (show cntV ps vs t = ((lvl ps t.lv g).length : Int) * prodN vs t.vars t.vars.length by unfold cntV; rw [hgl.out])
  have hpr := HK.out.prod
  have H4 := Lib.hid (fun (h : ¬ 0 < (lvl ps t.lv g).length) => (tabB_4 (vs := vs) (t := t) (show ¬ 0 < (lvl ps t.lv ps.length).length by rw [hgl.out]; exact h)).symm)
  have H5 := Lib.hid (fun (h : ¬ ((lvl ps t.lv g).length : Int) * prodN vs t.vars t.vars.length ≤ 600) => (tabB_5 (ps := ps) (vs := vs) (t := t) (by rw [HC.out]; exact h)).symm)
  have H6 := Lib.hid (fun (h : 0 < (lvl ps t.lv g).length) (h2 : ((lvl ps t.lv g).length : Int) * prodN vs t.vars t.vars.length ≤ 600) => (tabB_6 (ps := ps) (vs := vs) (t := t) (risB_lenT hl.out H0.out) H1.out H2.out (by rw [hgl.out]; exact h) (by rw [HC.out]; exact h2)).symm)
  have hlv := Nat.le_trans (lvl_len (ps := ps) (v := t.lv) g) HG.out.most
  clear HC H2
  have hcell := g1
  clear hcell
  obtain ⟨b0, xg, xt⟩ := box_two w #[.slice P g cg] #[.int .i64 t.lv, .slice V m d, .slice U k e, .int .i64 t.sum] 36 56
  replace hX := hX.below b0
  replace hS := hS.below b0
  replace hT := hT.below b0
  have HB := Lib.hid b0
  have Xg := Lib.hid xg
  have Xt := Lib.hid xt
  clear b0 xg xt
  go_enter Tryz.func76, Tryz.ntmps76
  have lt := lt_of_block Xt.out
  have ct1 := bxc Xt.out 1 _ rfl
  go_wp2_with fail
  clear lt ct1
  generalize (w.alloc (.cells #[.slice P g cg] 36)).alloc (.cells #[.int .i64 t.lv, .slice V m d, .slice U k e, .int .i64 t.sum] 56) = w0 at *
  refine (areVars_any _ _ n _ m _ t.vars _ hS.bd hT.v).mono ?_
  rintro e w1 ⟨rfl, rfl⟩
  rw [H0.out]
  have lt := lt_of_block Xt.out
  have ct2 := bxc Xt.out 2 _ rfl
  go_wp2_with fail
  clear lt ct2
  refine (isWhere_any _ _ n _ k _ vs t.wh _ hS hT.u HL.out).mono ?_
  rintro e w2 ⟨rfl, b2⟩
  rw [H1.out]
  replace Xg := Lib.hid (bxb Xg.out b2)
  replace Xt := Lib.hid (bxb Xt.out b2)
  replace hX := hX.below b2
  replace hS := hS.below b2
  replace hT := hT.below b2
  replace HB := Lib.hid (HB.out.trans (b2.mono HB.out.size))
  clear b2
  have lg := lt_of_block Xg.out
  have cg0 := bxc Xg.out 0 _ rfl
  have lt := lt_of_block Xt.out
  have ct0 := bxc Xt.out 0 _ rfl
  have ct1 := bxc Xt.out 1 _ rfl
  have ct2 := bxc Xt.out 2 _ rfl
  have ct3 := bxc Xt.out 3 _ rfl
  go_wp2_with fail
  clear lg cg0 lt ct0 ct1 ct2 ct3
  refine (cellCount_any P A V U g cg n c m d k e ps t vs _ HG.out hX hS hT HK.out).mono ?_
  rintro e w3 ⟨rfl, b3⟩
  replace Xg := Lib.hid (bxb Xg.out b3)
  replace Xt := Lib.hid (bxb Xt.out b3)
  replace hX := hX.below b3
  replace hS := hS.below b3
  replace hT := hT.below b3
  replace HB := Lib.hid (HB.out.trans (b3.mono HB.out.size))
  clear b3
  clear hX hS hT
  generalize (lvl ps t.lv g).length = LN at *
  generalize prodN vs t.vars t.vars.length = PR at *
  have hbd := cnt_bd hlv hpr.1 hpr.2
  have hz : ¬ 0 < LN → (LN : Int) * PR = 0 := fun h => by rw [show LN = 0 by omega]; simp
  have ho : 0 < LN → 0 < (LN : Int) * PR := fun h => Int.mul_pos (by omega) (by omega)
  generalize (LN : Int) * PR = CN at *
  by_cases h7 : 0 < LN
  · have hc1 := ho h7
    have H7 := Lib.hid h7
    clear hz ho h7
    by_cases h8 : CN ≤ 600
    · have R := Lib.hid (H6.out H7.out h8)
      go_wp2
      go_ret
      exact ⟨ret_bool R.out, HB.out⟩
    · have R := Lib.hid ((decide_eq_false h8).trans (H5.out (by omega)))
      go_wp2
      go_ret
      exact ⟨ret_bool R.out, HB.out⟩
  · have R := Lib.hid (H4.out h7)
    have hc1 : ¬ 0 < CN := by rw [hz h7]; omega
    clear hz ho h7
    go_wp2
    go_ret
    exact ⟨ret_bool R.out, HB.out⟩

set_option maxRecDepth 100000 in
set_option maxHeartbeats 2000000 in
theorem uGood_any (P A V U : Option Addr) (g cg n c m d k e : Nat) (ps : List Int) (t : TabD) (vs : List (ByteArray × Int)) (w : World) (hX : IntR w P g ps) (hS : SchR w A n c vs) (hT : TabR w V m U k t) :
    Calls Tryz.prog 73 #[.agg #[.slice P g cg], .slice A n c, .agg #[.int .i64 t.lv, .slice V m d, .slice U k e, .int .i64 t.sum]] w fun e w' => e = .returned (.bool (allB ps vs t)) ∧ Below w.heap.size w w' := by
  have hl := Lib.hid hS.len
  have hn := hS.bd
  have hgl := Lib.hid hX.len
  cases ha : geoB ps
  · have R := Lib.hid (allB_1 (vs := vs) (t := t) ha)
    have HA := Lib.hid ha
    clear ha
    obtain ⟨b0, xg, xt⟩ := box_two w #[.slice P g cg] #[.int .i64 t.lv, .slice V m d, .slice U k e, .int .i64 t.sum] 36 56
    replace hX := hX.below b0
    replace hS := hS.below b0
    replace hT := hT.below b0
    have HB := Lib.hid b0
    have Xg := Lib.hid xg
    have Xt := Lib.hid xt
    clear b0 xg xt
    go_enter Tryz.func73, Tryz.ntmps73
    have lg := lt_of_block Xg.out
    have cg0 := bxc Xg.out 0 _ rfl
    go_wp2_with fail
    clear lg cg0
    generalize (w.alloc (.cells #[.slice P g cg] 36)).alloc (.cells #[.int .i64 t.lv, .slice V m d, .slice U k e, .int .i64 t.sum] 56) = w0 at *
    refine (gGood_any P g cg ps _ hX).mono ?_
    rintro e w1 ⟨rfl, b1⟩
    rw [HA.out]
    replace Xg := Lib.hid (bxb Xg.out b1)
    replace Xt := Lib.hid (bxb Xt.out b1)
    replace hX := hX.below b1
    replace hS := hS.below b1
    replace hT := hT.below b1
    replace HB := Lib.hid (HB.out.trans (b1.mono HB.out.size))
    clear b1
    go_wp2
    go_ret
    exact ⟨ret_bool R.out, HB.out⟩
  have HA := Lib.hid ha
  have hg0 := geoB_of ha
  rw [hgl.out] at hg0
  have HG := Lib.hid hg0
  clear ha hg0
  cases hs : schB vs
  · have R := Lib.hid (allB_2 (ps := ps) (t := t) hs)
    have HS := Lib.hid hs
    clear hs
    obtain ⟨b0, xg, xt⟩ := box_two w #[.slice P g cg] #[.int .i64 t.lv, .slice V m d, .slice U k e, .int .i64 t.sum] 36 56
    replace hX := hX.below b0
    replace hS := hS.below b0
    replace hT := hT.below b0
    have HB := Lib.hid b0
    have Xg := Lib.hid xg
    have Xt := Lib.hid xt
    clear b0 xg xt
    go_enter Tryz.func73, Tryz.ntmps73
    have lg := lt_of_block Xg.out
    have cg0 := bxc Xg.out 0 _ rfl
    go_wp2_with fail
    clear lg cg0
    generalize (w.alloc (.cells #[.slice P g cg] 36)).alloc (.cells #[.int .i64 t.lv, .slice V m d, .slice U k e, .int .i64 t.sum] 56) = w0 at *
    refine (gGood_any P g cg ps _ hX).mono ?_
    rintro e w1 ⟨rfl, b1⟩
    rw [HA.out]
    replace Xg := Lib.hid (bxb Xg.out b1)
    replace Xt := Lib.hid (bxb Xt.out b1)
    replace hX := hX.below b1
    replace hS := hS.below b1
    replace hT := hT.below b1
    replace HB := Lib.hid (HB.out.trans (b1.mono HB.out.size))
    clear b1
    go_wp2_with fail
    refine (sGood_any _ n _ vs _ hS.v hS.s hS.bd hS.cp).mono ?_
    rintro e w2 ⟨rfl, b2⟩
    rw [HS.out]
    replace Xg := Lib.hid (bxb Xg.out b2)
    replace Xt := Lib.hid (bxb Xt.out b2)
    replace hX := hX.below b2
    replace hS := hS.below b2
    replace hT := hT.below b2
    replace HB := Lib.hid (HB.out.trans (b2.mono HB.out.size))
    clear b2
    go_wp2
    go_ret
    exact ⟨ret_bool R.out, HB.out⟩
  have HS := Lib.hid hs
  have HL := Lib.hid (hS.lev hs)
  clear hs
  have hlv := Nat.le_trans (lvl_len (ps := ps) (v := t.lv) g) HG.out.most
  obtain ⟨LN, hLN⟩ : ∃ x, (lvl ps t.lv g).length = x := ⟨_, rfl⟩
  rw [hLN] at hlv
  have HLN := Lib.hid hLN
  clear hLN
  by_cases h7 : 0 < LN
  rotate_left
  · have R := Lib.hid (allB_3 (tabB_4 (ps := ps) (vs := vs) (t := t) (show ¬ 0 < (lvl ps t.lv ps.length).length by rw [hgl.out, HLN.out]; exact h7)))
    have hq : ((LN : Int) == 0) = true := by rw [beq_iff_eq]; omega
    obtain ⟨b0, xg, xt⟩ := box_two w #[.slice P g cg] #[.int .i64 t.lv, .slice V m d, .slice U k e, .int .i64 t.sum] 36 56
    replace hX := hX.below b0
    replace hS := hS.below b0
    replace hT := hT.below b0
    have HB := Lib.hid b0
    have Xg := Lib.hid xg
    have Xt := Lib.hid xt
    clear b0 xg xt
    go_enter Tryz.func73, Tryz.ntmps73
    have lg := lt_of_block Xg.out
    have cg0 := bxc Xg.out 0 _ rfl
    go_wp2_with fail
    clear lg cg0
    generalize (w.alloc (.cells #[.slice P g cg] 36)).alloc (.cells #[.int .i64 t.lv, .slice V m d, .slice U k e, .int .i64 t.sum] 56) = w0 at *
    refine (gGood_any P g cg ps _ hX).mono ?_
    rintro e w1 ⟨rfl, b1⟩
    rw [HA.out]
    replace Xg := Lib.hid (bxb Xg.out b1)
    replace Xt := Lib.hid (bxb Xt.out b1)
    replace hX := hX.below b1
    replace hS := hS.below b1
    replace hT := hT.below b1
    replace HB := Lib.hid (HB.out.trans (b1.mono HB.out.size))
    clear b1
    go_wp2_with fail
    refine (sGood_any _ n _ vs _ hS.v hS.s hS.bd hS.cp).mono ?_
    rintro e w2 ⟨rfl, b2⟩
    rw [HS.out]
    replace Xg := Lib.hid (bxb Xg.out b2)
    replace Xt := Lib.hid (bxb Xt.out b2)
    replace hX := hX.below b2
    replace hS := hS.below b2
    replace hT := hT.below b2
    replace HB := Lib.hid (HB.out.trans (b2.mono HB.out.size))
    clear b2
    have lg := lt_of_block Xg.out
    have cg0 := bxc Xg.out 0 _ rfl
    have lt := lt_of_block Xt.out
    have ct0 := bxc Xt.out 0 _ rfl
    go_wp2_with fail
    clear lg cg0 lt ct0
    refine (gLevel_any P g cg ps t.lv _ hX HG.out).mono ?_
    rintro e w3 ⟨Al, cl, rfl, ol, b3⟩
    replace Xg := Lib.hid (bxb Xg.out b3)
    replace Xt := Lib.hid (bxb Xt.out b3)
    replace hX := hX.below b3
    replace hS := hS.below b3
    replace hT := hT.below b3
    replace HB := Lib.hid (HB.out.trans (b3.mono HB.out.size))
    clear b3
    clear ol
    rw [HLN.out]
    go_wp2
    go_ret
    exact ⟨ret_bool R.out, HB.out⟩
  have H7 := Lib.hid (show 0 < (lvl ps t.lv ps.length).length by rw [hgl.out, HLN.out]; exact h7)
  have hq : ((LN : Int) == 0) = false := by rw [beq_eq_false_iff_ne]; omega
  cases h0 : risB t.vars n
  · have R := Lib.hid (allB_3 (tabB_1 (ps := ps) (t := t) (risB_lenD hl.out h0)))
    have H0 := Lib.hid h0
    clear h0
    obtain ⟨b0, xg, xt⟩ := box_two w #[.slice P g cg] #[.int .i64 t.lv, .slice V m d, .slice U k e, .int .i64 t.sum] 36 56
    replace hX := hX.below b0
    replace hS := hS.below b0
    replace hT := hT.below b0
    have HB := Lib.hid b0
    have Xg := Lib.hid xg
    have Xt := Lib.hid xt
    clear b0 xg xt
    go_enter Tryz.func73, Tryz.ntmps73
    have lg := lt_of_block Xg.out
    have cg0 := bxc Xg.out 0 _ rfl
    go_wp2_with fail
    clear lg cg0
    generalize (w.alloc (.cells #[.slice P g cg] 36)).alloc (.cells #[.int .i64 t.lv, .slice V m d, .slice U k e, .int .i64 t.sum] 56) = w0 at *
    refine (gGood_any P g cg ps _ hX).mono ?_
    rintro e w1 ⟨rfl, b1⟩
    rw [HA.out]
    replace Xg := Lib.hid (bxb Xg.out b1)
    replace Xt := Lib.hid (bxb Xt.out b1)
    replace hX := hX.below b1
    replace hS := hS.below b1
    replace hT := hT.below b1
    replace HB := Lib.hid (HB.out.trans (b1.mono HB.out.size))
    clear b1
    go_wp2_with fail
    refine (sGood_any _ n _ vs _ hS.v hS.s hS.bd hS.cp).mono ?_
    rintro e w2 ⟨rfl, b2⟩
    rw [HS.out]
    replace Xg := Lib.hid (bxb Xg.out b2)
    replace Xt := Lib.hid (bxb Xt.out b2)
    replace hX := hX.below b2
    replace hS := hS.below b2
    replace hT := hT.below b2
    replace HB := Lib.hid (HB.out.trans (b2.mono HB.out.size))
    clear b2
    have lg := lt_of_block Xg.out
    have cg0 := bxc Xg.out 0 _ rfl
    have lt := lt_of_block Xt.out
    have ct0 := bxc Xt.out 0 _ rfl
    go_wp2_with fail
    clear lg cg0 lt ct0
    refine (gLevel_any P g cg ps t.lv _ hX HG.out).mono ?_
    rintro e w3 ⟨Al, cl, rfl, ol, b3⟩
    replace Xg := Lib.hid (bxb Xg.out b3)
    replace Xt := Lib.hid (bxb Xt.out b3)
    replace hX := hX.below b3
    replace hS := hS.below b3
    replace hT := hT.below b3
    replace HB := Lib.hid (HB.out.trans (b3.mono HB.out.size))
    clear b3
    clear ol
    rw [HLN.out]
    have lt := lt_of_block Xt.out
    have ct1 := bxc Xt.out 1 _ rfl
    go_wp2_with fail
    clear lt ct1
    refine (l1Rising_any _ n m _ t.vars _ hS.bd hT.v).mono ?_
    rintro e w4 ⟨rfl, rfl⟩
    rw [H0.out]
    go_wp2
    go_ret
    exact ⟨ret_bool R.out, HB.out⟩
  have H0 := Lib.hid h0
  have HK := Lib.hid (show PartOk vs t.vars n from ⟨hS.len, HS.out, h0⟩)
  clear h0
  cases h1 : whB vs t.wh
  · have R := Lib.hid (allB_3 (tabB_2 (ps := ps) (t := t) h1))
    have H1 := Lib.hid h1
    clear h1
    obtain ⟨b0, xg, xt⟩ := box_two w #[.slice P g cg] #[.int .i64 t.lv, .slice V m d, .slice U k e, .int .i64 t.sum] 36 56
    replace hX := hX.below b0
    replace hS := hS.below b0
    replace hT := hT.below b0
    have HB := Lib.hid b0
    have Xg := Lib.hid xg
    have Xt := Lib.hid xt
    clear b0 xg xt
    go_enter Tryz.func73, Tryz.ntmps73
    have lg := lt_of_block Xg.out
    have cg0 := bxc Xg.out 0 _ rfl
    go_wp2_with fail
    clear lg cg0
    generalize (w.alloc (.cells #[.slice P g cg] 36)).alloc (.cells #[.int .i64 t.lv, .slice V m d, .slice U k e, .int .i64 t.sum] 56) = w0 at *
    refine (gGood_any P g cg ps _ hX).mono ?_
    rintro e w1 ⟨rfl, b1⟩
    rw [HA.out]
    replace Xg := Lib.hid (bxb Xg.out b1)
    replace Xt := Lib.hid (bxb Xt.out b1)
    replace hX := hX.below b1
    replace hS := hS.below b1
    replace hT := hT.below b1
    replace HB := Lib.hid (HB.out.trans (b1.mono HB.out.size))
    clear b1
    go_wp2_with fail
    refine (sGood_any _ n _ vs _ hS.v hS.s hS.bd hS.cp).mono ?_
    rintro e w2 ⟨rfl, b2⟩
    rw [HS.out]
    replace Xg := Lib.hid (bxb Xg.out b2)
    replace Xt := Lib.hid (bxb Xt.out b2)
    replace hX := hX.below b2
    replace hS := hS.below b2
    replace hT := hT.below b2
    replace HB := Lib.hid (HB.out.trans (b2.mono HB.out.size))
    clear b2
    have lg := lt_of_block Xg.out
    have cg0 := bxc Xg.out 0 _ rfl
    have lt := lt_of_block Xt.out
    have ct0 := bxc Xt.out 0 _ rfl
    go_wp2_with fail
    clear lg cg0 lt ct0
    refine (gLevel_any P g cg ps t.lv _ hX HG.out).mono ?_
    rintro e w3 ⟨Al, cl, rfl, ol, b3⟩
    replace Xg := Lib.hid (bxb Xg.out b3)
    replace Xt := Lib.hid (bxb Xt.out b3)
    replace hX := hX.below b3
    replace hS := hS.below b3
    replace hT := hT.below b3
    replace HB := Lib.hid (HB.out.trans (b3.mono HB.out.size))
    clear b3
    clear ol
    rw [HLN.out]
    have lt := lt_of_block Xt.out
    have ct1 := bxc Xt.out 1 _ rfl
    go_wp2_with fail
    clear lt ct1
    refine (l1Rising_any _ n m _ t.vars _ hS.bd hT.v).mono ?_
    rintro e w4 ⟨rfl, rfl⟩
    rw [H0.out]
    have lt := lt_of_block Xt.out
    have ct2 := bxc Xt.out 2 _ rfl
    go_wp2_with fail
    clear lt ct2
    refine (uWhere_any _ _ n _ k _ vs t.wh _ hS hT.u HL.out).mono ?_
    rintro e w5 ⟨rfl, b5⟩
    rw [H1.out]
    replace Xg := Lib.hid (bxb Xg.out b5)
    replace Xt := Lib.hid (bxb Xt.out b5)
    replace hX := hX.below b5
    replace hS := hS.below b5
    replace hT := hT.below b5
    replace HB := Lib.hid (HB.out.trans (b5.mono HB.out.size))
    clear b5
    go_wp2
    go_ret
    exact ⟨ret_bool R.out, HB.out⟩
  have H1 := Lib.hid h1
  clear h1
  cases h2 : inR t.sum (-1) ((n : Int) - 1)
  · have R := Lib.hid (allB_3 (tabB_3 (ps := ps) (t := t) (by rw [hl.out]; exact h2)))
    have H2 := Lib.hid h2
    clear h2
    obtain ⟨b0, xg, xt⟩ := box_two w #[.slice P g cg] #[.int .i64 t.lv, .slice V m d, .slice U k e, .int .i64 t.sum] 36 56
    replace hX := hX.below b0
    replace hS := hS.below b0
    replace hT := hT.below b0
    have HB := Lib.hid b0
    have Xg := Lib.hid xg
    have Xt := Lib.hid xt
    clear b0 xg xt
    go_enter Tryz.func73, Tryz.ntmps73
    have lg := lt_of_block Xg.out
    have cg0 := bxc Xg.out 0 _ rfl
    go_wp2_with fail
    clear lg cg0
    generalize (w.alloc (.cells #[.slice P g cg] 36)).alloc (.cells #[.int .i64 t.lv, .slice V m d, .slice U k e, .int .i64 t.sum] 56) = w0 at *
    refine (gGood_any P g cg ps _ hX).mono ?_
    rintro e w1 ⟨rfl, b1⟩
    rw [HA.out]
    replace Xg := Lib.hid (bxb Xg.out b1)
    replace Xt := Lib.hid (bxb Xt.out b1)
    replace hX := hX.below b1
    replace hS := hS.below b1
    replace hT := hT.below b1
    replace HB := Lib.hid (HB.out.trans (b1.mono HB.out.size))
    clear b1
    go_wp2_with fail
    refine (sGood_any _ n _ vs _ hS.v hS.s hS.bd hS.cp).mono ?_
    rintro e w2 ⟨rfl, b2⟩
    rw [HS.out]
    replace Xg := Lib.hid (bxb Xg.out b2)
    replace Xt := Lib.hid (bxb Xt.out b2)
    replace hX := hX.below b2
    replace hS := hS.below b2
    replace hT := hT.below b2
    replace HB := Lib.hid (HB.out.trans (b2.mono HB.out.size))
    clear b2
    have lg := lt_of_block Xg.out
    have cg0 := bxc Xg.out 0 _ rfl
    have lt := lt_of_block Xt.out
    have ct0 := bxc Xt.out 0 _ rfl
    go_wp2_with fail
    clear lg cg0 lt ct0
    refine (gLevel_any P g cg ps t.lv _ hX HG.out).mono ?_
    rintro e w3 ⟨Al, cl, rfl, ol, b3⟩
    replace Xg := Lib.hid (bxb Xg.out b3)
    replace Xt := Lib.hid (bxb Xt.out b3)
    replace hX := hX.below b3
    replace hS := hS.below b3
    replace hT := hT.below b3
    replace HB := Lib.hid (HB.out.trans (b3.mono HB.out.size))
    clear b3
    clear ol
    rw [HLN.out]
    have lt := lt_of_block Xt.out
    have ct1 := bxc Xt.out 1 _ rfl
    go_wp2_with fail
    clear lt ct1
    refine (l1Rising_any _ n m _ t.vars _ hS.bd hT.v).mono ?_
    rintro e w4 ⟨rfl, rfl⟩
    rw [H0.out]
    have lt := lt_of_block Xt.out
    have ct2 := bxc Xt.out 2 _ rfl
    go_wp2_with fail
    clear lt ct2
    refine (uWhere_any _ _ n _ k _ vs t.wh _ hS hT.u HL.out).mono ?_
    rintro e w5 ⟨rfl, b5⟩
    rw [H1.out]
    replace Xg := Lib.hid (bxb Xg.out b5)
    replace Xt := Lib.hid (bxb Xt.out b5)
    replace hX := hX.below b5
    replace hS := hS.below b5
    replace hT := hT.below b5
    replace HB := Lib.hid (HB.out.trans (b5.mono HB.out.size))
    clear b5
    have lt := lt_of_block Xt.out
    have ct3 := bxc Xt.out 3 _ rfl
    go_wp2_with fail
    clear lt ct3
    refine (l1In_any _ _ _ _).mono ?_
    rintro e w6 ⟨rfl, rfl⟩
    rw [H2.out]
    go_wp2
    go_ret
    exact ⟨ret_bool R.out, HB.out⟩
  have H2 := Lib.hid h2
  clear h2
  have hpr := HK.out.prod
  have HC := Lib.hid (show cntV ps vs t = (LN : Int) * prodN vs t.vars t.vars.length by unfold cntV; rw [hgl.out, HLN.out])
  have H5 := Lib.hid (fun (h : ¬ (LN : Int) * prodN vs t.vars t.vars.length ≤ 600) => allB_3 (tabB_5 (ps := ps) (vs := vs) (t := t) (by rw [HC.out]; exact h)))
  have H6 := Lib.hid (fun (h2 : (LN : Int) * prodN vs t.vars t.vars.length ≤ 600) => allB_4 (ps := ps) (vs := vs) (t := t) HA.out HS.out (tabB_6 (ps := ps) (vs := vs) (t := t) (risB_lenT hl.out H0.out) H1.out (by rw [hl.out]; exact H2.out) H7.out (by rw [HC.out]; exact h2)))
  clear HC
  obtain ⟨b0, xg, xt⟩ := box_two w #[.slice P g cg] #[.int .i64 t.lv, .slice V m d, .slice U k e, .int .i64 t.sum] 36 56
  replace hX := hX.below b0
  replace hS := hS.below b0
  replace hT := hT.below b0
  have HB := Lib.hid b0
  have Xg := Lib.hid xg
  have Xt := Lib.hid xt
  clear b0 xg xt
  go_enter Tryz.func73, Tryz.ntmps73
  have lg := lt_of_block Xg.out
  have cg0 := bxc Xg.out 0 _ rfl
  go_wp2_with fail
  clear lg cg0
  generalize (w.alloc (.cells #[.slice P g cg] 36)).alloc (.cells #[.int .i64 t.lv, .slice V m d, .slice U k e, .int .i64 t.sum] 56) = w0 at *
  refine (gGood_any P g cg ps _ hX).mono ?_
  rintro e w1 ⟨rfl, b1⟩
  rw [HA.out]
  replace Xg := Lib.hid (bxb Xg.out b1)
  replace Xt := Lib.hid (bxb Xt.out b1)
  replace hX := hX.below b1
  replace hS := hS.below b1
  replace hT := hT.below b1
  replace HB := Lib.hid (HB.out.trans (b1.mono HB.out.size))
  clear b1
  go_wp2_with fail
  refine (sGood_any _ n _ vs _ hS.v hS.s hS.bd hS.cp).mono ?_
  rintro e w2 ⟨rfl, b2⟩
  rw [HS.out]
  replace Xg := Lib.hid (bxb Xg.out b2)
  replace Xt := Lib.hid (bxb Xt.out b2)
  replace hX := hX.below b2
  replace hS := hS.below b2
  replace hT := hT.below b2
  replace HB := Lib.hid (HB.out.trans (b2.mono HB.out.size))
  clear b2
  have lg := lt_of_block Xg.out
  have cg0 := bxc Xg.out 0 _ rfl
  have lt := lt_of_block Xt.out
  have ct0 := bxc Xt.out 0 _ rfl
  go_wp2_with fail
  clear lg cg0 lt ct0
  refine (gLevel_any P g cg ps t.lv _ hX HG.out).mono ?_
  rintro e w3 ⟨Al, cl, rfl, ol, b3⟩
  replace Xg := Lib.hid (bxb Xg.out b3)
  replace Xt := Lib.hid (bxb Xt.out b3)
  replace hX := hX.below b3
  replace hS := hS.below b3
  replace hT := hT.below b3
  replace HB := Lib.hid (HB.out.trans (b3.mono HB.out.size))
  clear b3
  clear ol
  rw [HLN.out]
  have lt := lt_of_block Xt.out
  have ct1 := bxc Xt.out 1 _ rfl
  go_wp2_with fail
  clear lt ct1
  refine (l1Rising_any _ n m _ t.vars _ hS.bd hT.v).mono ?_
  rintro e w4 ⟨rfl, rfl⟩
  rw [H0.out]
  have lt := lt_of_block Xt.out
  have ct2 := bxc Xt.out 2 _ rfl
  go_wp2_with fail
  clear lt ct2
  refine (uWhere_any _ _ n _ k _ vs t.wh _ hS hT.u HL.out).mono ?_
  rintro e w5 ⟨rfl, b5⟩
  rw [H1.out]
  replace Xg := Lib.hid (bxb Xg.out b5)
  replace Xt := Lib.hid (bxb Xt.out b5)
  replace hX := hX.below b5
  replace hS := hS.below b5
  replace hT := hT.below b5
  replace HB := Lib.hid (HB.out.trans (b5.mono HB.out.size))
  clear b5
  have lt := lt_of_block Xt.out
  have ct3 := bxc Xt.out 3 _ rfl
  go_wp2_with fail
  clear lt ct3
  refine (l1In_any _ _ _ _).mono ?_
  rintro e w6 ⟨rfl, rfl⟩
  rw [H2.out]
  have lg := lt_of_block Xg.out
  have cg0 := bxc Xg.out 0 _ rfl
  have lt := lt_of_block Xt.out
  have ct0 := bxc Xt.out 0 _ rfl
  have ct1 := bxc Xt.out 1 _ rfl
  have ct2 := bxc Xt.out 2 _ rfl
  have ct3 := bxc Xt.out 3 _ rfl
  go_wp2_with fail
  clear lg cg0 lt ct0 ct1 ct2 ct3
  refine (uCount_any P A V U g cg n c m d k e ps t vs _ HG.out hX hS hT HK.out).mono ?_
  rintro e w7 ⟨rfl, b7⟩
  rw [HLN.out]
  replace Xg := Lib.hid (bxb Xg.out b7)
  replace Xt := Lib.hid (bxb Xt.out b7)
  replace hX := hX.below b7
  replace hS := hS.below b7
  replace hT := hT.below b7
  replace HB := Lib.hid (HB.out.trans (b7.mono HB.out.size))
  clear b7
  clear hX hS hT
  generalize prodN vs t.vars t.vars.length = PR at *
  have hbd := cnt_bd hlv hpr.1 hpr.2
  generalize (LN : Int) * PR = CN at *
  by_cases h8 : CN ≤ 600
  · have R := Lib.hid (H6.out h8)
    go_wp2
    go_ret
    exact ⟨ret_bool R.out, HB.out⟩
  · have R := Lib.hid ((decide_eq_false h8).trans (H5.out (by omega)))
    go_wp2
    go_ret
    exact ⟨ret_bool R.out, HB.out⟩
end
end Go.Proofs.YtfanpbfmnckmnaaGreat
