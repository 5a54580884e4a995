/- Drawn lists of seeds. -/
import Derived.Test.YtfkgpccanagioaaDrawB
import Derived.Test.YtfkgpccanagioaaSealLaw
namespace Go.Proofs.Ytfkgpccanagioaa
open Go.RowKit

/-- A drawn list, in blocks of its own. -/
def DList (b g L : Nat) (w : World) (e : Ending) (w' : World) : Prop := ∃ (A : Option Addr) (m c : Nat) (xs : List Int), e = .returned (.slice A m c) ∧ m ≤ b ∧ OwnI w' w.heap.size w'.heap.size A m c xs ∧ Cur w' g L ∧ Chg g (g + 1) w w'

set_option maxRecDepth 100000 in
set_option maxHeartbeats 4000000 in
theorem seeds_any (g L : Nat) (w : World) (h : Cur w g L) (hL : L ≤ 700000) :
    Calls Try.prog 39 #[.pointer (some ⟨g, 0, none⟩)] w (DList 400 g (L + 30) w) := by
  have hlt := h.lt
  have hc0 := h
  have hG0 := Chg.refl g (g + 1) w
  clear h
  go_enter Try.func39, Try.ntmps39
  go_wp2_with fail
  refine (pick_any g _ _ _ hc0 (by omega) (by omega)).mono ?_
  rintro e w1 ⟨v1, rfl, v1l, v1u, hc1, hg1⟩
  have hG1 := hG0.trans hg1
  have z1 := hg1.size
  clear hc0 hG0 hg1
  replace v1u : v1 ≤ 5 := by simpa using v1u
  obtain ⟨kk, hkk⟩ := Int.eq_ofNat_of_zero_le v1l
  subst hkk
  have hk7 : kk ≤ 5 := by omega
  clear v1l v1u
  go_wp2_with fail
  go_loopw [3, 4] (fun l i wr => ∃ (k m : Nat) (A2 : Option Addr) (c2 : Nat) (xs : List Int), l = .slice A2 m c2 ∧ i = .int .i64 k ∧ m + k ≤ 5 ∧ OwnI wr w.heap.size wr.heap.size A2 m c2 xs ∧ Cur wr g (L + 2 + 4 * (5 - k)) ∧ Chg g (g + 1) w wr) (fun _ i _ => (intOf i).toNat)
  case atStart => exact ⟨kk, 0, none, 0, [], rfl, rfl, by omega, ⟨Own.nil_, fun k hk => by simp [rowOf] at hk, by omega⟩, hc1.mono (by omega), hG1⟩
  case round =>
    clear hc1 hG1 hk7
    obtain ⟨k, m, A2, c2, xs, rfl, rfl, hmk, hO, hc, hG⟩ := hrel
    have hz := hG.size
    by_cases h0 : 0 < k
    · obtain ⟨j, rfl⟩ : ∃ j, k = j + 1 := ⟨k - 1, by omega⟩
      go_wp2_with fail
      refine (seed0_any g _ _ hc (by omega)).mono ?_
      rintro e w5 ⟨v, rfl, hv0, hv1, hc5, hg5⟩
      clear hv1
      replace hO := hO.chg hg5 (by omega)
      have hz5 := hg5.size
      have hG5 := hG.trans hg5
      clear hc hG hg5
      go_wp2_with (at_builtin; refine wp_app1 rfl _ _ rfl w.heap.size A2 m c2 _ rfl hO.own _ rfl rfl (by omega) (by omega) ?_; intro A3 c3 w6 hown2 hg2 _)
      have hrow : ∀ j, rowOf A2 = some j → w.heap.size ≤ j := fun j hj => (hO.row j hj).1
      have hc6 := cur_app hc5 hg2 (fun j hj => by have := hrow j hj; omega)
      have hG6 := chg_app hG5 hg2 hrow
      have hO6 := OwnI.of_own hown2 (by omega)
      have hz6 := hg2.size
      clear hO hc5 hG5 hg2 hown2
      go_wp2
      go_roundw
      case rel => exact ⟨j, m + 1, A3, c3, _, rfl, by go_num, by omega, hO6, hc6.mono (by omega), hG6⟩
      case measure => simp [intOf]
    · obtain rfl : k = 0 := by omega
      have hc0' := hc.mono (show L + 2 + 4 * (5 - 0) ≤ L + 22 by omega)
      clear hc h0
      have ol := hO
      clear hO
      go_wp2_with fail
      refine (pick_any g _ _ _ hc0' (by omega) (by omega)).mono ?_
      rintro e w2 ⟨v2, rfl, v2l, v2u, hc2, hg2⟩
      replace ol := ol.chg hg2 (by omega)
      have hG2 := hG.trans hg2
      have z2 := hg2.size
      clear hc0' hG hg2
      replace v2u : v2 ≤ 29 := by simpa using v2u
      by_cases tv20 : v2 = 0
      · subst tv20
        go_wp2_with fail
        refine (pick_any g _ _ _ hc2 (by omega) (by omega)).mono ?_
        rintro e w3 ⟨v3, rfl, v3l, v3u, hc3, hg3⟩
        replace ol := ol.chg hg3 (by omega)
        have hG3 := hG2.trans hg3
        have z3 := hg3.size
        clear hc2 hG2 hg3
        replace v3u : v3 ≤ 1 := by simpa using v3u
        rcases (show v3 = 0 ∨ v3 = 1 by omega) with hv9 | hv9
        · subst hv9
          obtain ⟨i0, hi, hz00, hz1, hz2⟩ := info_parts Try.infoInt
          go_wp2_with (at_make; refine wpList_make_full _ rfl _ _ 30 rfl w3.heap.size 3 i0 _ 1 Try.underlying30 hi hz00 hz1 .i64 .i64 _ _ 392 rfl rfl rfl rfl (by rw [hz2]; omega) (by unfold maxLen; omega) (Nat.le_refl _) ?_; intro w4 hown hg; have b4 : Below w3.heap.size w3 w4 := (Below.refl _ _).grown hg (Nat.le_refl _) (by simp); have hc4 := hc3.below b4)
          rw [map_replicate0] at hown
          have ol4 := OwnI.of_own (Own.mono hown (show w.heap.size ≤ w3.heap.size by omega)) (by omega)
          have hG4 := hG3.then_ b4
          have z4 := b4.size
          clear hc3 hG3 hg hown hi hz00 hz1 hz2 b4
          try clear ol
          have ol := ol4
          clear ol4
          go_ret
          exact ⟨_, 392, 392, _, rfl, by omega, OwnI.fit ol (Nat.le_refl _), hc4.mono (by omega), hG4⟩
        · subst hv9
          obtain ⟨i0, hi, hz00, hz1, hz2⟩ := info_parts Try.infoInt
          go_wp2_with (at_make; refine wpList_make_full _ rfl _ _ 30 rfl w3.heap.size 3 i0 _ 1 Try.underlying30 hi hz00 hz1 .i64 .i64 _ _ 393 rfl rfl rfl rfl (by rw [hz2]; omega) (by unfold maxLen; omega) (Nat.le_refl _) ?_; intro w5 hown hg; have b5 : Below w3.heap.size w3 w5 := (Below.refl _ _).grown hg (Nat.le_refl _) (by simp); have hc5 := hc3.below b5)
          rw [map_replicate0] at hown
          have ol5 := OwnI.of_own (Own.mono hown (show w.heap.size ≤ w3.heap.size by omega)) (by omega)
          have hG5 := hG3.then_ b5
          have z5 := b5.size
          clear hc3 hG3 hg hown hi hz00 hz1 hz2 b5
          try clear ol
          have ol := ol5
          clear ol5
          go_ret
          exact ⟨_, 393, 393, _, rfl, by omega, OwnI.fit ol (Nat.le_refl _), hc5.mono (by omega), hG5⟩
      · have tv20E : (v2 == 0) = false := by rw [beq_eq_false_iff_ne]; exact tv20
        by_cases tv21 : v2 = 1
        · subst tv21
          go_wp2_with fail
          refine (anySeed_any g _ _ hc2 (by omega)).mono ?_
          rintro e w6 ⟨v6, rfl, v6l, v6u, hc6, hg6⟩
          replace ol := ol.chg hg6 (by omega)
          have hG6 := hG2.trans hg6
          have z6 := hg6.size
          clear hc2 hG2 hg6
          go_wp2_with (at_builtin; refine wp_app1 rfl _ _ rfl w.heap.size A2 _ _ _ rfl ol.own _ rfl rfl (by omega) (by omega) ?_; intro A7 c7 w7 hown2 hg2 _; have hrow : ∀ j, rowOf A2 = some j → w.heap.size ≤ j := (fun j hj => (ol.row j hj).1); have hc7 := cur_app hc6 hg2 (fun j hj => by have := hrow j hj; omega))
          have hG7 := chg_app hG6 hg2 hrow
          have ol7 := OwnI.of_own hown2 (by omega)
          have z7 := hg2.size
          clear ol hc6 hG6 hg2 hown2 hrow
          have ol := ol7
          clear ol7
          go_ret
          exact ⟨A7, m + 1, c7, _, rfl, by omega, OwnI.fit ol (Nat.le_refl _), hc7.mono (by omega), hG7⟩
        · have tv21E : (v2 == 1) = false := by rw [beq_eq_false_iff_ne]; exact tv21
          go_wp2
          go_ret
          exact ⟨A2, m, c2, xs, rfl, by omega, OwnI.fit ol (Nat.le_refl _), hc2.mono (by omega), hG2⟩

/-- A list that a function draws. -/
def TList (w : World) (e : Ending) (w' : World) : Prop := ∃ (A : Option Addr) (m c : Nat) (xs : List Int), e = .returned (.slice A m c) ∧ m ≤ 500 ∧ OwnI w' w.heap.size w'.heap.size A m c xs ∧ Below w.heap.size w w'

set_option maxRecDepth 100000 in
set_option maxHeartbeats 4000000 in
theorem drawJointSeed_any (A : Option Addr) (n c : Nat) (w : World) (hb : Byt w A n) (hn : n ≤ 1048576) :
    Calls Try.prog 17 #[.slice A n c] w (TList w) := by
  have hz0 : w.heap.size ≤ w.heap.size := Nat.le_refl _
  have hq0 := Below.refl w.heap.size w
  have hbb := hb
  go_enter Try.func17, Try.ntmps17
  go_wp2_with fail
  have xc := box_new w #[.slice A n c, .int .i64 0, .int .u64 0] 51
  have y0 : (w.alloc (.cells #[.slice A n c, .int .i64 0, .int .u64 0] 51)).heap.size = w.heap.size + 1 := by simp
  have hG0 : Chg (w.heap.size) (w.heap.size + 1) w (w.alloc (.cells #[.slice A n c, .int .i64 0, .int .u64 0] 51)) := Chg.of_below (hq0.trans ((below_new w (.cells #[.slice A n c, .int .i64 0, .int .u64 0] 51)).mono hq0.size))
  have hb9 : ∀ b, b < w.heap.size → (w.alloc (.cells #[.slice A n c, .int .i64 0, .int .u64 0] 51)).heap[b]? = w.heap[b]? := fun b hb => hG0.block b hb (.inl (by omega))
  generalize w.alloc (.cells #[.slice A n c, .int .i64 0, .int .u64 0] 51) = u990 at *
  have hc0 := cur_new xc (by omega) hbb hb9 hn
  clear hb9 hbb xc
  have z990 : w.heap.size + 1 = u990.heap.size := y0.symm
  clear y0
  obtain ⟨g, hg0⟩ : ∃ g, w.heap.size = g := ⟨_, rfl⟩
  rw [hg0] at hc0 hG0 z990
  rw [hg0]
  refine (seeds_any g _ _ hc0 (by omega)).mono ?_
  rintro e w1 ⟨A2, m, c2, xs, rfl, hm, ol, hc1, hg1⟩
  have hG1 := hG0.trans hg1
  have z1 := hg1.size
  clear hc0 hG0 hg1
  replace ol : OwnI w1 (g + 1) w1.heap.size A2 m c2 xs := OwnI.fit ol (by omega)
  go_wp2
  go_ret
  exact ⟨A2, m, c2, xs, rfl, by omega, OwnI.fit ol (by omega), Chg.to_below (by omega) hG1⟩

def DrawSealSeedP (w : World) (e : Ending) (w' : World) : Prop := ∃ a0 a1 : Int, e = .returned (.tuple #[.int .i64 a0, .int .i64 a1]) ∧ Below w.heap.size w w'
set_option maxRecDepth 100000 in
set_option maxHeartbeats 2000000 in
theorem drawSealSeed_any (A : Option Addr) (n c : Nat) (w : World) (hb : Byt w A n) (hn : n ≤ 1048576) :
    Calls Try.prog 6 #[.slice A n c] w (DrawSealSeedP w) := by
  have hz0 : w.heap.size ≤ w.heap.size := Nat.le_refl _
  have hq0 := Below.refl w.heap.size w
  have hbb := hb
  go_enter Try.func6, Try.ntmps6
  go_wp2_with fail
  have xc := box_new w #[.slice A n c, .int .i64 0, .int .u64 0] 51
  have y0 : (w.alloc (.cells #[.slice A n c, .int .i64 0, .int .u64 0] 51)).heap.size = w.heap.size + 1 := by simp
  have hG0 : Chg (w.heap.size) (w.heap.size + 1) w (w.alloc (.cells #[.slice A n c, .int .i64 0, .int .u64 0] 51)) := Chg.of_below (hq0.trans ((below_new w (.cells #[.slice A n c, .int .i64 0, .int .u64 0] 51)).mono hq0.size))
  have hb9 : ∀ b, b < w.heap.size → (w.alloc (.cells #[.slice A n c, .int .i64 0, .int .u64 0] 51)).heap[b]? = w.heap[b]? := fun b hb => hG0.block b hb (.inl (by omega))
  generalize w.alloc (.cells #[.slice A n c, .int .i64 0, .int .u64 0] 51) = u990 at *
  have hc0 := cur_new xc (by omega) hbb hb9 hn
  clear hb9 hbb xc
  have z990 : w.heap.size + 1 = u990.heap.size := y0.symm
  clear y0
  obtain ⟨g, hg0⟩ : ∃ g, w.heap.size = g := ⟨_, rfl⟩
  rw [hg0] at hc0 hG0 z990
  rw [hg0]
  refine (anySeed_any g _ _ hc0 (by omega)).mono ?_
  rintro e w1 ⟨v1, rfl, v1l, v1u, hc1, hg1⟩
  have hG1 := hG0.trans hg1
  have z1 := hg1.size
  clear hc0 hG0 hg1
  go_wp2_with fail
  refine (anySeed_any g _ _ hc1 (by omega)).mono ?_
  rintro e w2 ⟨v2, rfl, v2l, v2u, hc2, hg2⟩
  have hG2 := hG1.trans hg2
  have z2 := hg2.size
  clear hc1 hG1 hg2
  go_wp2
  refine bodyPost_ret (v := .tuple #[.int .i64 v1, .int .i64 v2]) (by simp [results, Try.results6, go_sem, ]) rfl ⟨(v1), (v2), rfl, Chg.to_below (by omega) hG2⟩

def TTwo (w : World) (e : Ending) (w' : World) : Prop := ∃ (A : Option Addr) (m c : Nat) (xs : List Int) (A' : Option Addr) (m' c' : Nat) (ys : List Int), e = .returned (.tuple #[.slice A m c, .slice A' m' c']) ∧ m ≤ 500 ∧ m' ≤ 500 ∧ OwnI w' w.heap.size w'.heap.size A m c xs ∧ OwnI w' w.heap.size w'.heap.size A' m' c' ys ∧ Below w.heap.size w w'
set_option maxRecDepth 100000 in
set_option maxHeartbeats 4000000 in
theorem drawSealParts_any (A : Option Addr) (n c : Nat) (w : World) (hb : Byt w A n) (hn : n ≤ 1048576) :
    Calls Try.prog 10 #[.slice A n c] w (TTwo w) := by
  have hz0 : w.heap.size ≤ w.heap.size := Nat.le_refl _
  have hq0 := Below.refl w.heap.size w
  have hbb := hb
  go_enter Try.func10, Try.ntmps10
  go_wp2_with fail
  have xc := box_new w #[.slice A n c, .int .i64 0, .int .u64 0] 51
  have y0 : (w.alloc (.cells #[.slice A n c, .int .i64 0, .int .u64 0] 51)).heap.size = w.heap.size + 1 := by simp
  have hG0 : Chg (w.heap.size) (w.heap.size + 1) w (w.alloc (.cells #[.slice A n c, .int .i64 0, .int .u64 0] 51)) := Chg.of_below (hq0.trans ((below_new w (.cells #[.slice A n c, .int .i64 0, .int .u64 0] 51)).mono hq0.size))
  have hb9 : ∀ b, b < w.heap.size → (w.alloc (.cells #[.slice A n c, .int .i64 0, .int .u64 0] 51)).heap[b]? = w.heap[b]? := fun b hb => hG0.block b hb (.inl (by omega))
  generalize w.alloc (.cells #[.slice A n c, .int .i64 0, .int .u64 0] 51) = u990 at *
  have hc0 := cur_new xc (by omega) hbb hb9 hn
  clear hb9 hbb xc
  have z990 : w.heap.size + 1 = u990.heap.size := y0.symm
  clear y0
  obtain ⟨g, hg0⟩ : ∃ g, w.heap.size = g := ⟨_, rfl⟩
  rw [hg0] at hc0 hG0 z990
  rw [hg0]
  refine (seeds_any g _ _ hc0 (by omega)).mono ?_
  rintro e w1 ⟨A2, m, c2, xs, rfl, hm, ol, hc1, hg1⟩
  have hG1 := hG0.trans hg1
  have z1 := hg1.size
  clear hc0 hG0 hg1
  replace ol : OwnI w1 (g + 1) w1.heap.size A2 m c2 xs := OwnI.fit ol (by omega)
  obtain ⟨i0, hi, hz00, hz1, hz2⟩ := info_parts Try.infoInt
  obtain ⟨gm, hgm⟩ : ∃ x, w1.heap.size = x := ⟨_, rfl⟩
  go_wp2_with (at_make; refine wpList_make_full _ rfl _ _ 30 rfl w1.heap.size 3 i0 _ 1 Try.underlying30 hi hz00 hz1 .i64 .i64 _ _ m rfl rfl rfl rfl (by rw [hz2]; omega) (by unfold maxLen; omega) (Nat.le_refl _) ?_; intro w60 hown hg)
  have b60 : Below w1.heap.size w1 w60 := (Below.refl _ _).grown hg (Nat.le_refl _) (by simp)
  rw [map_replicate0] at hown
  have om0 := OwnI.of_own hown (by omega)
  rw [hgm] at om0
  have om : OwnI w60 gm (gm + 1) (some ⟨gm, 0, none⟩) m m (List.replicate m 0) := ⟨om0.own, fun k hk => by (have : some gm = some k := hk); injection this; omega, om0.small⟩
  replace ol : OwnI w60 (g + 1) gm A2 m c2 xs := by (have h9 := ol.below b60); rw [hgm] at h9; exact h9
  have hc60 := hc1.below b60
  have hG60 := hG1.then_ b60
  have z60 : gm + 1 ≤ w60.heap.size := by have := om0.own.size_lt; omega
  have z61 : g + 1 ≤ gm := by omega
  clear hc1 hG1 hg hown hi hz00 hz1 hz2 b60 om0
  go_loopw [18] (fun i wr => ∃ (k : Nat) (ys : List Int), k ≤ m ∧ i = .int .i64 k ∧ OwnI wr gm (gm + 1) (some ⟨gm, 0, none⟩) m m ys ∧ OwnI wr (g + 1) gm A2 m c2 xs ∧ Cur wr g (30 + 6 * k) ∧ Chg g (g + 1) w wr ∧ gm + 1 ≤ wr.heap.size) (fun i _ => m - (intOf i).toNat)
  case atStart => exact ⟨0, _, Nat.zero_le _, rfl, om, ol, hc60.mono (by omega), hG60, z60⟩
  case round =>
    clear om ol hc60 hG60 z60
    obtain ⟨k, ys, hk, rfl, om, ol, hc, hG, hz⟩ := hrel
    by_cases hlt : k < m
    · go_wp2_with fail
      refine (anySeed_any g _ _ hc (by omega)).mono ?_
      rintro e w70 ⟨v, rfl, _, _, hc7, hg7⟩
      replace om := om.chg hg7 (by omega)
      replace ol := ol.chg hg7 (by omega)
      have hz7 := hg7.size
      have hG7 := hG.trans hg7
      clear hc hG hg7
      obtain ⟨gg, hge, _, hgl, hcg, hfg⟩ := om.own.at_ hlt
      simp only [Option.some.injEq, Addr.mk.injEq, and_true] at hge
      subst hge
      have HO2 := Lib.hid (show OwnI (w70.setCell ⟨gm, k, none⟩ (.int .i64 v)) gm (gm + 1) (some ⟨gm, 0, none⟩) m m (ys.set k v) from ⟨om.own.set, om.top, om.small⟩)
      have HL2 := Lib.hid (ol.chg ((Chg.refl gm (gm + 1) w70).set (g := gm) (i := k) (v := .int .i64 v) (Nat.le_refl _) (by omega)) (.inl (Nat.le_refl _)))
      have HC2 := Lib.hid (hc7.far (p := ⟨gm, k, none⟩) (by show g < gm; omega) (.int .i64 v))
      have HG2 := Lib.hid (hG7.setNewD (p := ⟨gm, k, none⟩) (by show w.heap.size ≤ gm; omega) (.int .i64 v))
      clear om ol hc7 hG7 hgl
      go_wp2
      go_roundw
      case rel => exact ⟨k + 1, _, by omega, by go_num, HO2.out, HL2.out, HC2.out.mono (by omega), HG2.out, by simp [World.setCell]; omega⟩
      case measure => simp [intOf]; omega
    · obtain rfl : m = k := by omega
      have hc0' := hc.mono (show 30 + 6 * m ≤ 10000 by omega)
      clear hc
      go_wp2_with fail
      refine (one_any g _ _ _ hc0' (by omega) (by omega)).mono ?_
      rintro e w2 ⟨b2, rfl, hc2, hg2⟩
      replace ol := ol.chg hg2 (by omega)
      replace om := om.chg hg2 (by omega)
      have hG2 := hG.trans hg2
      have z2 := hg2.size
      clear hc0' hG hg2
      cases b2
      · go_wp2
        go_ret2
        exact ⟨A2, m, c2, xs, _, m, m, _, rfl, by omega, by omega, OwnI.fit ol (by omega), OwnI.fit om (by omega), Chg.to_below (by omega) hG2⟩
      · go_wp2_with (at_builtin; refine wp_app1 rfl _ _ rfl gm _ _ _ _ rfl om.own _ rfl rfl (by omega) (by omega) ?_; intro A9 c9 w90 hown2 hg2 _)
        have hrow : ∀ j, rowOf (some ⟨gm, 0, none⟩) = some j → gm ≤ j ∧ j < gm + 1 := fun j hj => om.row j hj
        have hg3 := Chg.of_grown hg2 hrow
        have hl9 := ol.chg hg3 (.inl (Nat.le_refl _))
        have hG9 := chg_app hG2 hg2 (fun j hj => by have := hrow j hj; omega)
        have ho9 := OwnI.of_own hown2 (by omega)
        have z9 := hg2.size
        clear ol om hc2 hG2 hg2 hg3 hown2
        go_wp2
        go_ret2
        exact ⟨A2, m, c2, xs, A9, m + 1, c9, _, rfl, by omega, by omega, OwnI.fit hl9 (by omega), OwnI.fit ho9 (by omega), Chg.to_below (by omega) hG9⟩

def TThree (w : World) (e : Ending) (w' : World) : Prop := ∃ (A0 : Option Addr) (m0 c0 : Nat) (ss : List Int) (A : Option Addr) (m c : Nat) (xs : List Int) (A' : Option Addr) (m' c' : Nat) (ys : List Int), e = .returned (.tuple #[.slice A0 m0 c0, .slice A m c, .slice A' m' c']) ∧ OwnI w' w.heap.size w'.heap.size A0 m0 c0 ss ∧ OwnI w' w.heap.size w'.heap.size A m c xs ∧ OwnI w' w.heap.size w'.heap.size A' m' c' ys ∧ Below w.heap.size w w'
set_option maxRecDepth 100000 in
set_option maxHeartbeats 4000000 in
theorem drawFirstBadPart_any (A : Option Addr) (n c : Nat) (w : World) (hb : Byt w A n) (hn : n ≤ 1048576) :
    Calls Try.prog 15 #[.slice A n c] w (TThree w) := by
  have hz0 : w.heap.size ≤ w.heap.size := Nat.le_refl _
  have hq0 := Below.refl w.heap.size w
  have hbb := hb
  go_enter Try.func15, Try.ntmps15
  go_wp2_with fail
  have xc := box_new w #[.slice A n c, .int .i64 0, .int .u64 0] 51
  have y0 : (w.alloc (.cells #[.slice A n c, .int .i64 0, .int .u64 0] 51)).heap.size = w.heap.size + 1 := by simp
  have hG0 : Chg (w.heap.size) (w.heap.size + 1) w (w.alloc (.cells #[.slice A n c, .int .i64 0, .int .u64 0] 51)) := Chg.of_below (hq0.trans ((below_new w (.cells #[.slice A n c, .int .i64 0, .int .u64 0] 51)).mono hq0.size))
  have hb9 : ∀ b, b < w.heap.size → (w.alloc (.cells #[.slice A n c, .int .i64 0, .int .u64 0] 51)).heap[b]? = w.heap[b]? := fun b hb => hG0.block b hb (.inl (by omega))
  generalize w.alloc (.cells #[.slice A n c, .int .i64 0, .int .u64 0] 51) = u990 at *
  have hc0 := cur_new xc (by omega) hbb hb9 hn
  clear hb9 hbb xc
  have z990 : w.heap.size + 1 = u990.heap.size := y0.symm
  clear y0
  obtain ⟨g, hg0⟩ : ∃ g, w.heap.size = g := ⟨_, rfl⟩
  rw [hg0] at hc0 hG0 z990
  rw [hg0]
  have hbq : Below w.heap.size w u990 := Chg.to_below (by omega) hG0
  refine (drawSealParts_any A n c u990 (hb.below hbq) hn).mono ?_
  rintro e w20 ⟨A2, m2, c2, xs, A3, m3, c3, ys, rfl, hm2, hm3, ol, om, b20⟩
  have hc20 := hc0.below b20
  have hG20 := hG0.then_ b20
  have z20 := b20.size
  clear hc0 hG0 b20 hbq
  go_wp2_with fail
  refine (specSealParts_law _ _ _ _ _ _ _ _ _ ol.ints ol.small om.ints om.small).mono ?_
  rintro e w21 ⟨A4, c4, rfl, os, b21⟩
  replace ol := ol.below b21
  replace om := om.below b21
  have hc21 := hc20.below b21
  have hG21 := hG20.then_ b21
  have z21 := b21.size
  clear hc20 hG20 b21
  have hsl : Hid (partsB xs ys = true → (sealsV xs ys).length ≤ 392) := Lib.hid fun h => by
    have h2 := h
    simp only [partsB, Bool.and_eq_true, decide_eq_true_eq] at h2
    unfold sealsV; rw [if_pos h, sealL_len]; exact h2.1.1
  obtain ⟨SS, hSS⟩ : ∃ SS, sealsV xs ys = SS := ⟨_, rfl⟩
  rw [hSS] at os hsl ⊢
  clear hSS
  cases hP : partsB xs ys
  · clear hP hsl os
    go_wp2
    refine bodyPost_ret (results_tmp3 rfl _ _ _) rfl ?_
    exact ⟨A2, m2, c2, xs, A2, m2, c2, xs, A3, m3, c3, ys, rfl, OwnI.fit ol (by omega), OwnI.fit ol (by omega), OwnI.fit om (by omega), Chg.to_below (by omega) hG21⟩
  · have hs3 := hsl.out hP
    clear hP hsl
    obtain ⟨N, hN⟩ : ∃ N, SS.length = N := ⟨_, rfl⟩
    rw [hN] at os hs3 ⊢
    clear hN
    by_cases hN0 : 0 < N
    · go_wp2_with fail
      refine (one_any g _ _ _ hc21 (by omega) (by omega)).mono ?_
      rintro e w1 ⟨b1, rfl, hc1, hg1⟩
      replace ol := ol.chg hg1 (by omega)
      replace om := om.chg hg1 (by omega)
      replace os := os.chg hg1 (by omega)
      have hG1 := hG21.trans hg1
      have z1 := hg1.size
      clear hc21 hG21 hg1
      cases b1
      · go_wp2_with fail
        refine (one_any g _ _ _ hc1 (by omega) (by omega)).mono ?_
        rintro e w2 ⟨b2, rfl, hc2, hg2⟩
        replace ol := ol.chg hg2 (by omega)
        replace om := om.chg hg2 (by omega)
        replace os := os.chg hg2 (by omega)
        have hG2 := hG1.trans hg2
        have z2 := hg2.size
        clear hc1 hG1 hg2
        cases b2
        · go_wp2
          refine bodyPost_ret (results_tmp3 rfl _ _ _) rfl ?_
          exact ⟨_, N, _, _, A2, m2, c2, xs, A3, m3, c3, ys, rfl, OwnI.fit os (by omega), OwnI.fit ol (by omega), OwnI.fit om (by omega), Chg.to_below (by omega) hG2⟩
        · go_wp2_with (at_builtin; refine wp_app1 rfl _ _ rfl w20.heap.size _ _ _ _ rfl os.own _ rfl rfl (by omega) (by omega) ?_; intro A9 c9 w90 hown2 hg2 _)
          have hrow := os.row
          have hg3 := Chg.of_grown hg2 hrow
          have hl9 := ol.chg hg3 (.inl (Nat.le_refl _))
          have hm9 := om.chg hg3 (.inl (Nat.le_refl _))
          have hG9 := chg_app hG2 hg2 (fun j hj => by have := hrow j hj; omega)
          have ho9 := OwnI.of_own hown2 (by omega)
          have z9 := hg2.size
          clear ol om os hc2 hG2 hg2 hg3 hown2
          go_wp2
          refine bodyPost_ret (results_tmp3 rfl _ _ _) rfl ?_
          exact ⟨A9, N + 1, c9, _, A2, m2, c2, xs, A3, m3, c3, ys, rfl, OwnI.fit ho9 (by omega), OwnI.fit hl9 (by omega), OwnI.fit hm9 (by omega), Chg.to_below (by omega) hG9⟩
      · go_wp2_with fail
        refine (pick_any g _ _ _ hc1 (by omega) (by omega)).mono ?_
        rintro e w3 ⟨v3, rfl, v3l, v3u, hc3, hg3⟩
        replace ol := ol.chg hg3 (by omega)
        replace om := om.chg hg3 (by omega)
        replace os := os.chg hg3 (by omega)
        have hG3 := hG1.trans hg3
        have z3 := hg3.size
        clear hc1 hG1 hg3
        replace v3u : v3 ≤ N - 1 := by split at v3u <;> omega
        go_wp2_with fail
        refine (pick_any g _ _ _ hc3 (by omega) (by omega)).mono ?_
        rintro e w4 ⟨v4, rfl, v4l, v4u, hc4, hg4⟩
        replace ol := ol.chg hg4 (by omega)
        replace om := om.chg hg4 (by omega)
        replace os := os.chg hg4 (by omega)
        have hG4 := hG3.trans hg4
        have z4 := hg4.size
        clear hc3 hG3 hg4
        replace v4u : v4 ≤ 4 := by simpa using v4u
        obtain ⟨vn, hvn⟩ := Int.eq_ofNat_of_zero_le v3l
        subst hvn
        have hvn2 : vn < N := by omega
        obtain ⟨gs, hgs, hgs2, hgs3, hcs, hfs⟩ := os.own.at_ hvn2
        subst hgs
        have hzs : gs < w21.heap.size := os.top gs rfl
        have HO2 := Lib.hid (show OwnI (w4.setCell ⟨gs, vn, none⟩ (.int .i64 v4)) w20.heap.size w21.heap.size (some ⟨gs, 0, none⟩) N c4 (SS.set vn v4) from ⟨os.own.set, os.top, os.small⟩)
        have HCH := ((Chg.refl gs (gs + 1) w4).set (g := gs) (i := vn) (v := .int .i64 v4) (Nat.le_refl _) (by omega))
        have HL2 := Lib.hid (ol.chg HCH (.inl hgs2))
        have HM2 := Lib.hid (om.chg HCH (.inl hgs2))
        have HC2 := Lib.hid (hc4.far (p := ⟨gs, vn, none⟩) (by show g < gs; omega) (.int .i64 v4))
        have HG2 := Lib.hid (hG4.setNewD (p := ⟨gs, vn, none⟩) (by show w.heap.size ≤ gs; omega) (.int .i64 v4))
        have HZ2 : w4.heap.size ≤ (w4.setCell ⟨gs, vn, none⟩ (.int .i64 v4)).heap.size := by simp [World.setCell]
        clear ol om os hc4 hG4 HCH
        go_wp2_with fail
        generalize w4.setCell ⟨gs, vn, none⟩ (.int .i64 v4) = w40 at *
        have os := HO2.out
        have ol := HL2.out
        have om := HM2.out
        have hc40 := HC2.out
        have hG40 := HG2.out
        clear HO2 HL2 HM2 HC2 HG2 hcs hfs
        refine (one_any g _ _ _ hc40 (by omega) (by omega)).mono ?_
        rintro e w5 ⟨b5, rfl, hc5, hg5⟩
        replace ol := ol.chg hg5 (by omega)
        replace om := om.chg hg5 (by omega)
        replace os := os.chg hg5 (by omega)
        have hG5 := hG40.trans hg5
        have z5 := hg5.size
        clear hc40 hG40 hg5
        cases b5
        · go_wp2
          refine bodyPost_ret (results_tmp3 rfl _ _ _) rfl ?_
          exact ⟨_, N, _, _, A2, m2, c2, xs, A3, m3, c3, ys, rfl, OwnI.fit os (by omega), OwnI.fit ol (by omega), OwnI.fit om (by omega), Chg.to_below (by omega) hG5⟩
        · go_wp2_with (at_builtin; refine wp_app1 rfl _ _ rfl w20.heap.size _ _ _ _ rfl os.own _ rfl rfl (by omega) (by omega) ?_; intro A9 c9 w90 hown2 hg2 _)
          have hrow := os.row
          have hg3 := Chg.of_grown hg2 hrow
          have hl9 := ol.chg hg3 (.inl (Nat.le_refl _))
          have hm9 := om.chg hg3 (.inl (Nat.le_refl _))
          have hG9 := chg_app hG5 hg2 (fun j hj => by have := hrow j hj; omega)
          have ho9 := OwnI.of_own hown2 (by omega)
          have z9 := hg2.size
          clear ol om os hc5 hG5 hg2 hg3 hown2
          go_wp2
          refine bodyPost_ret (results_tmp3 rfl _ _ _) rfl ?_
          exact ⟨A9, N + 1, c9, _, A2, m2, c2, xs, A3, m3, c3, ys, rfl, OwnI.fit ho9 (by omega), OwnI.fit hl9 (by omega), OwnI.fit hm9 (by omega), Chg.to_below (by omega) hG9⟩
    · have hN1 : N = 0 := by omega
      subst hN1
      skip
      go_wp2_with fail
      refine (one_any g _ _ _ hc21 (by omega) (by omega)).mono ?_
      rintro e w6 ⟨b6, rfl, hc6, hg6⟩
      replace ol := ol.chg hg6 (by omega)
      replace om := om.chg hg6 (by omega)
      replace os := os.chg hg6 (by omega)
      have hG6 := hG21.trans hg6
      have z6 := hg6.size
      clear hc21 hG21 hg6
      cases b6
      · go_wp2
        refine bodyPost_ret (results_tmp3 rfl _ _ _) rfl ?_
        exact ⟨_, _, _, _, A2, m2, c2, xs, A3, m3, c3, ys, rfl, OwnI.fit os (by omega), OwnI.fit ol (by omega), OwnI.fit om (by omega), Chg.to_below (by omega) hG6⟩
      · go_wp2_with (at_builtin; refine wp_app1 rfl _ _ rfl w20.heap.size _ _ _ _ rfl os.own _ rfl rfl (by omega) (by omega) ?_; intro A9 c9 w90 hown2 hg2 _)
        have hrow := os.row
        have hg3 := Chg.of_grown hg2 hrow
        have hl9 := ol.chg hg3 (.inl (Nat.le_refl _))
        have hm9 := om.chg hg3 (.inl (Nat.le_refl _))
        have hG9 := chg_app hG6 hg2 (fun j hj => by have := hrow j hj; omega)
        have ho9 := OwnI.of_own hown2 (by omega)
        have z9 := hg2.size
        clear ol om os hc6 hG6 hg2 hg3 hown2
        go_wp2
        refine bodyPost_ret (results_tmp3 rfl _ _ _) rfl ?_
        exact ⟨A9, _, c9, _, A2, m2, c2, xs, A3, m3, c3, ys, rfl, OwnI.fit ho9 (by omega), OwnI.fit hl9 (by omega), OwnI.fit hm9 (by omega), Chg.to_below (by omega) hG9⟩
end Go.Proofs.Ytfkgpccanagioaa
