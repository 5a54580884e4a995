/- MovedRecords of the program, at valid data with the same values; printed by gfg.py. -/
import Derived.Test.YtahbcnclhohnaaaGreatFsP
import Derived.Test.YtahbcnclhohnaaaGreatFsS
import Derived.Test.YtahbcnclhohnaaaGreatZe
import Derived.Deep.RegionHeld3
namespace Go.Proofs.YtahbcnclhohnaaaGreat
open Go.RowKit

theorem movL_yes {rs qs : List RecD} {i : Nat} (h : movB rs qs i = true) : (movL rs qs (i + 1)).length = (movL rs qs i).length + 1 := by rw [movL, if_pos h, List.length_append]; rfl
theorem movL_no {rs qs : List RecD} {i : Nat} (h : movB rs qs i = false) : (movL rs qs (i + 1)).length = (movL rs qs i).length := by rw [movL, if_neg (by simp [h])]
theorem movL_le (rs qs : List RecD) (i : Nat) : (movL rs qs i).length ≤ i := by
  rw [movL_len]
  exact Nat.le_trans (List.countP_le_length) (by simp)

set_option maxRecDepth 100000 in
set_option maxHeartbeats 4000000 in
theorem implMovedRecords_any (A B C : Option Addr) (n c m d d2 : Nat) (vs : List (ByteArray × Int)) (rs qs : List RecD) (w : World) (hx : SchR w A n c vs) (hy : DatR w B m rs) (hq : DatR w C m qs) (hd : dinB vs rs = true) (hd2 : dataB vs qs = true) (hv : ∀ i, i < m → rV rs i = rV qs i) :
    Calls Tryz.prog 13 #[.slice A n c, .slice B m d, .slice C m d2] w fun e w' => ∃ A' c', e = .returned (.tuple #[.slice A' (movL rs qs m).length c', .bool true]) ∧ Below w.heap.size w w' := by
  have hs : schB vs = true := by unfold dinB at hd; rw [Bool.and_eq_true] at hd; exact hd.1
  have hdb : dataB vs rs = true := by unfold dinB at hd; rw [Bool.and_eq_true] at hd; exact hd.2
  have hm40 : m ≤ 40 := by have h := hdb; have h2 := hy.r.1; unfold dataB at h; simp only [Bool.and_eq_true, decide_eq_true_eq] at h; omega
  have HS := Lib.hid hs
  have HD := Lib.hid hdb
  have HD2 := Lib.hid hd2
  have HY := Lib.hid hy
  have HQ := Lib.hid hq
  have HV := Lib.hid hv
  have hmm : ((m : Int) != (m : Int)) = false := by simp
  clear hd hd2 hs hdb hv
  go_enter Tryz.func13, Tryz.ntmps13
  go_wp2_with fail
  refine (IsSchema_any A n c vs _ hx.v hx.s hx.bd hx.cp).mono ?_
  rintro e w1 ⟨rfl, b1⟩
  rw [HS.out]
  go_wp2_with fail
  refine (isData_any A B n c m d vs rs _ (hx.below b1) (hy.below b1)).mono ?_
  rintro e w2 ⟨rfl, b2'⟩
  rw [HD.out]
  have b2 := b1.trans (b2'.mono b1.size)
  go_wp2_with fail
  refine (isData_any A C n c m d2 vs qs _ (hx.below b2) (hq.below b2)).mono ?_
  rintro e w3 ⟨rfl, b3'⟩
  rw [HD2.out]
  have b3 := Lib.hid (b2.trans (b3'.mono b2.size))
  have O0 : Hid (Own w3 w3.heap.size none 0 0 []) := Lib.hid Own.nil_
  clear b1 b2 b2' b3' hx hy hq HS HD HD2
  have B30 := Lib.hid (Below.refl w3.heap.size w3)
  go_wp2
  go_loopw [8, 35] (fun ov i wr => ∃ (j : Nat) (D : Option Addr) (cu : Nat) (L : List Int), j ≤ m ∧ i = .int .i64 j ∧ ov = .slice D (movL rs qs j).length cu ∧ Hid (Own wr w3.heap.size D (movL rs qs j).length cu L) ∧ Hid (Below w3.heap.size w3 wr)) (fun _ i _ => m - (intOf i).toNat)
  case atStart => exact ⟨0, none, 0, [], Nat.zero_le _, rfl, rfl, O0, B30⟩
  case round =>
    clear O0 B30
    obtain ⟨j, D, cu, L, hj, rfl, rfl, HO, HB⟩ := hrel
    by_cases hlt : j < m
    case pos =>
      have hb9 := b3.out.trans (HB.out.mono b3.out.size)
      have hy9 := HY.out.below hb9
      have hq9 := HQ.out.below hb9
      have hl1 := hy9.s j hlt
      have hl2 := hq9.s j hlt
      obtain ⟨ad, rfl, c0, c1, V, lv, cv, c2, hv1⟩ := hy9.r.at_ hlt
      obtain ⟨ad2, rfl, d0, d1, V2, lv2, cv2, d2', hv2⟩ := hq9.r.at_ hlt
      rw [hv1.1] at hl1
      rw [hv2.1] at hl2
      have HI1 := Lib.hid (IntR.mk hv1 hl1)
      have HI2 := Lib.hid (IntR.mk hv2 hl2)
      have HE := Lib.hid (HV.out j hlt)
      have HMB : Hid (movB rs qs j = (!(rA rs j == rA qs j) || !(rH rs j == rH qs j))) := Lib.hid rfl
      have HYS := Lib.hid (fun h => movL_yes (rs := rs) (qs := qs) (i := j) h)
      have HNO := Lib.hid (fun h => movL_no (rs := rs) (qs := qs) (i := j) h)
      have hml := movL_le rs qs j
      generalize rA rs j = x at *
      generalize rA qs j = x2 at *
      generalize rH rs j = y at *
      generalize rH qs j = y2 at *
      generalize rV rs j = xs at *
      generalize rV qs j = xs2 at *
      generalize movB rs qs j = mb at *
      have bk := below_new wr (.cells #[.int .i64 x, .int .i64 y, .slice V lv cv] 79)
      have XN := Lib.hid (box_new wr #[.int .i64 x, .int .i64 y, .slice V lv cv] 79)
      have n0 := box_cell XN.out 0 _ rfl; have n1 := box_cell XN.out 1 _ rfl; have n2 := box_cell XN.out 2 _ rfl
      have ln := lt_of_block XN.out
      have q0 := (bk.cell (block_lt_of_cell d0)).trans d0; have q1 := (bk.cell (block_lt_of_cell d1)).trans d1; have q2 := (bk.cell (block_lt_of_cell d2')).trans d2'
      have HI1b := Lib.hid (HI1.out.below bk)
      have HI2b := Lib.hid (HI2.out.below bk)
      have HOb := Lib.hid (HO.out.below bk)
      have HBb := Lib.hid (HB.out.trans (bk.mono HB.out.size))
      have jm : (j : Int) < (m : Int) := by omega
      have j0 : (0 : Int) ≤ (j : Int) := by omega
      clear hv1 hv2 hy9 hq9 bk HI1 HI2 HO HB hb9
      go_wp2_with fail
      clear c0 c1 c2 d0 d1 d2' ln
      obtain ⟨gn, hgn⟩ : ∃ gn, Hid (wr.heap.size = gn) := ⟨_, Lib.hid rfl⟩
      rw [hgn.out] at XN n0 n1 n2 ⊢
      generalize wr.alloc (.cells #[.int .i64 x, .int .i64 y, .slice V lv cv] 79) = w4 at *
      go_region_held3 (fun w' => w'.cell? ⟨gn, 0, none⟩ = some (.int .i64 x) ∧ w'.cell? ⟨gn, 1, none⟩ = some (.int .i64 y) ∧ w'.cell? ⟨gn, 2, none⟩ = some (.slice V lv cv) ∧ w'.cell? (ad2.add (j * 3)) = some (.int .i64 x2) ∧ w'.cell? ⟨(ad2.add (j * 3)).block, (ad2.add (j * 3)).off + 1, none⟩ = some (.int .i64 y2) ∧ w'.cell? ⟨(ad2.add (j * 3)).block, (ad2.add (j * 3)).off + 2, none⟩ = some (.slice V2 lv2 cv2)) (first | exact ⟨n0, n1, n2, q0, q1, q2⟩ | exact q5 | go_keep) ((first | (go_at_call 44; refine (slEqual_any V V2 lv cv lv2 cv2 xs xs2 _ (HI1b.out.below (by first | exact (Below.refl _ _).drew | exact below_drewN (Below.refl _ _) _)) (HI2b.out.below (by first | exact (Below.refl _ _).drew | exact below_drewN (Below.refl _ _) _))).mono ?_; rintro e w5 ⟨rfl, b5'⟩; rw [show (xs == xs2) = true by rw [HE.out]; simp]; have b5 : Below w4.heap.size w4 w5 := Below.trans (by first | exact (Below.refl _ _).drew | exact below_drewN (Below.refl _ _) _) b5'; have q5 : w5.cell? ⟨gn, 0, none⟩ = some (.int .i64 x) ∧ w5.cell? ⟨gn, 1, none⟩ = some (.int .i64 y) ∧ w5.cell? ⟨gn, 2, none⟩ = some (.slice V lv cv) ∧ w5.cell? (ad2.add (j * 3)) = some (.int .i64 x2) ∧ w5.cell? ⟨(ad2.add (j * 3)).block, (ad2.add (j * 3)).off + 1, none⟩ = some (.int .i64 y2) ∧ w5.cell? ⟨(ad2.add (j * 3)).block, (ad2.add (j * 3)).off + 2, none⟩ = some (.slice V2 lv2 cv2) := ⟨(b5.cell (block_lt_of_cell n0)).trans n0, (b5.cell (block_lt_of_cell n1)).trans n1, (b5.cell (block_lt_of_cell n2)).trans n2, (b5.cell (block_lt_of_cell q0)).trans q0, (b5.cell (block_lt_of_cell q1)).trans q1, (b5.cell (block_lt_of_cell q2)).trans q2⟩) | fail))
      obtain ⟨en0, en1, en2, eq0, eq1, eq2⟩ := q5
      have O5 := Lib.hid (HOb.out.below b5)
      have B5 := Lib.hid (HBb.out.trans (b5.mono HBb.out.size))
      clear n0 n1 n2 q0 q1 q2 HI1b HI2b HOb HBb b5 b5' XN hgn
      by_cases hx2 : x = x2
      case neg =>
        have t0 : (x != x2) = true := by simpa using hx2
        have HM := Lib.hid (HYS.out (by rw [HMB.out]; simp [hx2]))
        clear hx2 HYS HNO HMB
        go_wp2_with fail
        go_quiet (fail)
        have O6 := Lib.hid (O5.out.below (below_drewN (Below.refl _ _) nq))
        have B6 := Lib.hid (below_drewN B5.out nq)
        have z6 := B6.out.size
        go_wp2_with (at_builtin; refine wp_app1 (v := (j : Int)) rfl _ _ rfl w3.heap.size D _ cu L rfl O6.out _ rfl rfl (by omega) z6 ?_; intro A7 c7 w7 own7 grow7 row7)
        have B7 := Lib.hid (below_write B6.out grow7 z6 (fun q hq => (O6.out.row_ge q hq).1))
        rw [← HM.out] at own7
        have O7 := Lib.hid own7
        clear O5 O6 B5 B6 own7 grow7 row7 en0 en1 en2 eq0 eq1 eq2
        go_wp2
        go_roundw
        case rel => exact ⟨j + 1, A7, c7, _, by omega, by go_num, by rw [HM.out], O7, B7⟩
        case measure => simp [intOf]; omega
      case pos =>
        have t0 : (x != x2) = false := by simp [hx2]
        by_cases hy2 : y = y2
        case neg =>
          have t1 : (y != y2) = true := by simpa using hy2
          have HM := Lib.hid (HYS.out (by rw [HMB.out]; simp [hy2]))
          clear hx2 hy2 HYS HNO HMB
          go_wp2_with fail
          go_quiet (fail)
          have O6 := Lib.hid (O5.out.below (below_drewN (Below.refl _ _) nq))
          have B6 := Lib.hid (below_drewN B5.out nq)
          have z6 := B6.out.size
          go_wp2_with (at_builtin; refine wp_app1 (v := (j : Int)) rfl _ _ rfl w3.heap.size D _ cu L rfl O6.out _ rfl rfl (by omega) z6 ?_; intro A7 c7 w7 own7 grow7 row7)
          have B7 := Lib.hid (below_write B6.out grow7 z6 (fun q hq => (O6.out.row_ge q hq).1))
          rw [← HM.out] at own7
          have O7 := Lib.hid own7
          clear O5 O6 B5 B6 own7 grow7 row7 en0 en1 en2 eq0 eq1 eq2
          go_wp2
          go_roundw
          case rel => exact ⟨j + 1, A7, c7, _, by omega, by go_num, by rw [HM.out], O7, B7⟩
          case measure => simp [intOf]; omega
        case pos =>
          have t1 : (y != y2) = false := by simp [hy2]
          have HM := Lib.hid (HNO.out (by rw [HMB.out, hx2, hy2]; simp))
          clear hx2 hy2 HYS HNO HMB
          go_wp2_with fail
          go_quiet (fail)
          have O6 := Lib.hid (O5.out.below (below_drewN (Below.refl _ _) nq))
          have B6 := Lib.hid (below_drewN B5.out nq)
          rw [← HM.out] at O6
          clear O5 B5 en0 en1 en2 eq0 eq1 eq2
          go_wp2
          go_roundw
          case rel => exact ⟨j + 1, D, cu, L, by omega, by go_num, by rw [HM.out], O6, B6⟩
          case measure => simp [intOf]; omega
    case neg =>
      obtain rfl : j = m := by omega
      have HF := Lib.hid (b3.out.trans (HB.out.mono b3.out.size))
      clear HB b3 HO
      go_wp2
      go_ret2
      exact ⟨_, _, rfl, HF.out⟩
end Go.Proofs.YtahbcnclhohnaaaGreat
