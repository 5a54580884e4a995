/- Drawn values and records. -/
import Derived.Test.YtgeilnkglbcmeaaDrS
namespace Go.Proofs.Ytgeilnkglbcmeaa
open Go.RowKit

set_option maxRecDepth 100000 in
set_option maxHeartbeats 4000000 in
theorem values_any (g L lo n c : Nat) (A : Option Addr) (vs : List (ByteArray × Int)) (w : World) (h : Cur w g L) (hL : L ≤ 800000) (hs : DVr w lo A n c vs) (hlo : g < lo) (hn : n ≤ 8) :
    Calls Try.prog 119 #[.pointer (some ⟨g, 0, none⟩), .slice A n c] w (DInts 8 g (L + 16) w) := by
  have hlt := h.lt
  have hlen := hs.len
  have hbd := Lib.hid (fun j (hj : j < n) => hs.bd.at_ (j := j) (by rw [hlen]; exact hj))
  have HS := Lib.hid hs
  clear hs hlen
  go_enter Try.func119, Try.ntmps119
  go_wp2_with fail
  go_loopw [5, 10] (fun a i wr => ∃ (k : Nat) (E : Option Addr) (c3 : Nat) (xs : List Int), k ≤ n ∧ i = .int .i64 k ∧ a = .slice E k c3 ∧ OwnI wr w.heap.size wr.heap.size E k c3 xs ∧ Cur wr g (L + 2 * k) ∧ Chg g (g + 1) w wr) (fun _ i _ => n - (intOf i).toNat)
  case atStart => exact ⟨0, none, 0, [], Nat.zero_le _, rfl, rfl, ⟨Own.nil_, (fun k hk => by cases hk), by omega⟩, h.mono (by omega), Chg.refl _ _ _⟩
  case round =>
    clear h
    obtain ⟨k, E, c3, xs, hk, rfl, rfl, hO, hc, hG⟩ := hrel
    obtain ⟨wo, rfl⟩ : ∃ wo : World, wo = wr := ⟨_, rfl⟩
    have hz := hG.size
    by_cases hlt2 : k < n
    · obtain ⟨ad, rfl, c0, c1⟩ := ((HS.out.chg hG hlo).vars (by omega)).at_ hlt2
      obtain ⟨l0, l1, _⟩ := hbd.out k hlt2
      obtain ⟨y, hye⟩ : ∃ y, vL vs k = y := ⟨_, rfl⟩
      obtain ⟨s, hse⟩ : ∃ s, vN vs k = s := ⟨_, rfl⟩
      rw [hye] at c1 l0 l1
      rw [hse] at c0
      have b1 := below_new wo (.cells #[.string s, .int .i64 y] 89)
      have hc1 := hc.below b1
      have hG1 := hG.then_ b1
      have hO1 := hO.below b1
      have hz1 := b1.size
      have x1 := box_new wo #[.string s, .int .i64 y] 89
      clear hye hse hc hG b1
      go_wp2_with fail
      generalize wo.alloc (.cells #[.string s, .int .i64 y] 89) = w1 at *
      refine (pick_any g _ _ _ hc1 (by omega) (by omega)).mono ?_
      rintro e w5 ⟨u, rfl, hu0, hu1, hc5, hg5⟩
      clear hu1
      have hO5 := hO1.chg hg5 (by omega)
      have hG5 := hG1.trans hg5
      have hz5 := hg5.size
      clear hc1 hG1 hO1 hg5 c0 c1 x1
      go_wp2_with (at_builtin; refine wp_app1 rfl _ _ rfl w.heap.size E k c3 _ rfl hO5.own _ rfl rfl (by omega) (by omega) ?_; intro A3 c4 w6 hown2 hg2 _)
      have hrow : ∀ j, rowOf E = some j → w.heap.size ≤ j := fun j hj => (hO5.row j hj).1
      have hc6 := cur_app hc5 hg2 (fun j hj => by have := hrow j hj; omega)
      have hG6 := chg_app hG5 hg2 hrow
      have hO6 := OwnI.of_own hown2 (by omega)
      clear hO5 hc5 hG5 hg2 hown2 hO
      go_roundw
      case rel => exact ⟨k + 1, A3, c4, _, by omega, by go_num, rfl, hO6, hc6.mono (by omega), hG6⟩
      case measure => simp [intOf]; omega
    · obtain rfl : n = k := by omega
      go_wp2
      go_ret
      exact ⟨E, n, c3, xs, rfl, hn, hO, hc.mono (by omega), hG⟩

set_option maxRecDepth 100000 in
set_option maxHeartbeats 4000000 in
theorem anyValues_any (g L lo n c : Nat) (A : Option Addr) (vs : List (ByteArray × Int)) (w : World) (h : Cur w g L) (hL : L ≤ 700000) (os : DVr w lo A n c vs) (hlo : g < lo) (hn : n ≤ 8) :
    Calls Try.prog 118 #[.pointer (some ⟨g, 0, none⟩), .slice A n c] w (DInts 9 g (L + 30) w) := by
  have hlt := h.lt
  have hc0 := h
  have hG0 := Chg.refl g (g + 1) w
  clear h
  have hz0 := Nat.le_refl w.heap.size
  go_enter Try.func118, Try.ntmps118
  go_wp2_with fail
  refine (values_any g _ lo n c A vs _ hc0 (by omega) os hlo (by omega)).mono ?_
  rintro e w1 ⟨E, m, ce, xs, rfl, hm8, ov, hc1, hg1⟩
  replace os := os.chg hg1 (by omega)
  have hG1 := hG0.trans hg1
  have z1 := hg1.size
  clear hc0 hG0 hg1
  have hp0 : (0 : Int) ≤ (m : Int) := by omega
  by_cases hm0 : 0 < m
  · have hd : decide ((0 : Int) < (m : Int)) = true := by simpa using hm0
    go_wp2_with fail
    refine (one_any g _ _ _ hc1 (by omega) (by omega)).mono ?_
    rintro e w2 ⟨b2, rfl, hc2, hg2⟩
    replace os := os.chg hg2 (by omega)
    replace ov := ov.chg hg2 (by omega)
    have hG2 := hG1.trans hg2
    have z2 := hg2.size
    clear hc1 hG1 hg2
    cases b2
    · go_wp2_with fail
      refine (one_any g _ _ _ hc2 (by omega) (by omega)).mono ?_
      rintro e w3 ⟨b3, rfl, hc3, hg3⟩
      replace os := os.chg hg3 (by omega)
      replace ov := ov.chg hg3 (by omega)
      have hG3 := hG2.trans hg3
      have z3 := hg3.size
      clear hc2 hG2 hg3
      cases b3
      · go_wp2
        go_ret
        exact ⟨E, m, ce, xs, rfl, by omega, OwnI.fit ov (by omega), hc3.mono (by omega), hG3⟩
      · go_wp2_with (at_builtin; refine wp_app1 rfl _ _ rfl _ E m ce _ rfl ov.own _ rfl rfl (by omega) (by omega) ?_; intro A9 c9 w9 hown2 hg2 _)
        have hrow : ∀ j, rowOf E = some j → w.heap.size ≤ j := fun j hj => by have := ov.row j hj; omega
        have hc9 := cur_app hc3 hg2 (fun j hj => by have := hrow j hj; omega)
        have hG9 := chg_app hG3 hg2 hrow
        have hO9 := OwnI.of_own hown2 (by omega)
        clear ov os hg2 hown2 hc3 hG3
        go_wp2
        go_ret
        exact ⟨A9, m + 1, c9, _, rfl, by omega, OwnI.fit hO9 (by omega), hc9.mono (by omega), hG9⟩
    · go_wp2_with fail
      refine (pick_any g _ _ _ hc2 (by omega) (by omega)).mono ?_
      rintro e w4 ⟨v4, rfl, v4l, v4u, hc4, hg4⟩
      replace os := os.chg hg4 (by omega)
      replace ov := ov.chg hg4 (by omega)
      have hG4 := hG2.trans hg4
      have z4 := hg4.size
      clear hc2 hG2 hg4
      replace v4u : v4 ≤ m - 1 := by split at v4u <;> omega
      go_wp2_with fail
      have xlit5 := box_new w4 #[.int .i64 (-1), .int .i64 2, .int .i64 8] 3
      replace os := os.below (below_new w4 (.cells #[.int .i64 (-1), .int .i64 2, .int .i64 8] 3))
      replace ov := ov.below (below_new w4 (.cells #[.int .i64 (-1), .int .i64 2, .int .i64 8] 3))
      have hc5 := hc4.below (below_new w4 (.cells #[.int .i64 (-1), .int .i64 2, .int .i64 8] 3))
      have hG5 := hG4.alloc (.cells #[.int .i64 (-1), .int .i64 2, .int .i64 8] 3)
      have z5 : w4.heap.size + 1 ≤ (w4.alloc (.cells #[.int .i64 (-1), .int .i64 2, .int .i64 8] 3)).heap.size := by simp
      clear hc4 hG4
      generalize w4.alloc (.cells #[.int .i64 (-1), .int .i64 2, .int .i64 8] 3) = u5 at *
      have olit5 := own_lit [-1, 2, 8] xlit5 (by decide)
      clear xlit5
      refine (among_any g _ _ _ _ _ _ (-1) (8) [-1, 2, 8] _ hc5 (by omega) olit5 (by omega) (by decide) (by decide) (by decide)).mono ?_
      rintro e w6 ⟨v6, rfl, v6l, v6u, hc6, hg6⟩
      replace os := os.chg hg6 (by omega)
      replace ov := ov.chg hg6 (by omega)
      have hG6 := hG5.trans hg6
      have z6 := hg6.size
      clear hc5 hG5 hg6
      clear olit5
      obtain ⟨kp, hkp⟩ := Int.eq_ofNat_of_zero_le v4l
      subst hkp
      have hkm : kp < m := by omega
      obtain ⟨ga, hge, hgl, hgs, hcg, hfg⟩ := ov.own.at_ hkm
      subst hge
      have hgw : w.heap.size ≤ ga := by have := ov.row ga rfl; omega
      have HO := Lib.hid (show OwnI (w6.setCell ⟨ga, kp, none⟩ (.int .i64 v6)) _ _ (some ⟨ga, 0, none⟩) m ce (xs.set kp v6) from ⟨ov.own.set, ov.top, ov.small⟩)
      have HC := Lib.hid (hc6.far (p := ⟨ga, kp, none⟩) (by show g < ga; omega) (.int .i64 v6))
      have HG := Lib.hid (hG6.setNewD (p := ⟨ga, kp, none⟩) (by show w.heap.size ≤ ga; omega) (.int .i64 v6))
      clear ov os hc6 hG6
      go_wp2
      go_ret
      exact ⟨_, m, ce, _, rfl, by omega, OwnI.fit HO.out (by omega), HC.out.mono (by omega), HG.out⟩
  · have hm00 : m ≤ 0 := by omega
    have hd : decide ((0 : Int) < (m : Int)) = false := by simp; omega
    clear hm0
    go_wp2_with fail
    refine (one_any g _ _ _ hc1 (by omega) (by omega)).mono ?_
    rintro e w7 ⟨b7, rfl, hc7, hg7⟩
    replace os := os.chg hg7 (by omega)
    replace ov := ov.chg hg7 (by omega)
    have hG7 := hG1.trans hg7
    have z7 := hg7.size
    clear hc1 hG1 hg7
    cases b7
    · go_wp2
      go_ret
      exact ⟨E, m, ce, xs, rfl, by omega, OwnI.fit ov (by omega), hc7.mono (by omega), hG7⟩
    · go_wp2_with (at_builtin; refine wp_app1 rfl _ _ rfl _ E m ce _ rfl ov.own _ rfl rfl (by omega) (by omega) ?_; intro A9 c9 w9 hown2 hg2 _)
      have hrow : ∀ j, rowOf E = some j → w.heap.size ≤ j := fun j hj => by have := ov.row j hj; omega
      have hc9 := cur_app hc7 hg2 (fun j hj => by have := hrow j hj; omega)
      have hG9 := chg_app hG7 hg2 hrow
      have hO9 := OwnI.of_own hown2 (by omega)
      clear ov os hg2 hown2 hc7 hG7
      go_wp2
      go_ret
      exact ⟨A9, m + 1, c9, _, rfl, by omega, OwnI.fit hO9 (by omega), hc9.mono (by omega), hG9⟩
end Go.Proofs.Ytgeilnkglbcmeaa
