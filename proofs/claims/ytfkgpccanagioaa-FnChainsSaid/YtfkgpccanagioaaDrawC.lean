/- Drawn lists and strings for chains. -/
import Derived.Test.YtfkgpccanagioaaDrawL
namespace Go.Proofs.Ytfkgpccanagioaa
open Go.RowKit

set_option maxRecDepth 100000 in
set_option maxHeartbeats 600000 in
theorem drawHashList_any (A : Option Addr) (n c : Nat) (w : World) (hb : Byt w A n) (hn : n ≤ 1048576) :
    Calls Try.prog 47 #[.slice A n c] w (TList w) := by
  have hz0 : w.heap.size ≤ w.heap.size := Nat.le_refl _
  have hq0 := Below.refl w.heap.size w
  have hbb := hb
  go_enter Try.func47, Try.ntmps47
  go_wp2_with fail
  have xc := box_new w #[.slice A n c, .int .i64 0, .int .u64 0] 51
  have y0 : (w.alloc (.cells #[.slice A n c, .int .i64 0, .int .u64 0] 51)).heap.size = w.heap.size + 1 := by simp
  have hG0 : Chg (w.heap.size) (w.heap.size + 1) w (w.alloc (.cells #[.slice A n c, .int .i64 0, .int .u64 0] 51)) := Chg.of_below (hq0.trans ((below_new w (.cells #[.slice A n c, .int .i64 0, .int .u64 0] 51)).mono hq0.size))
  have hb9 : ∀ b, b < w.heap.size → (w.alloc (.cells #[.slice A n c, .int .i64 0, .int .u64 0] 51)).heap[b]? = w.heap[b]? := fun b hb => hG0.block b hb (.inl (by omega))
  generalize w.alloc (.cells #[.slice A n c, .int .i64 0, .int .u64 0] 51) = u990 at *
  have hc0 := cur_new xc (by omega) hbb hb9 hn
  clear hb9 hbb xc
  have z990 : w.heap.size + 1 = u990.heap.size := y0.symm
  clear y0
  obtain ⟨g, hg0⟩ : ∃ g, w.heap.size = g := ⟨_, rfl⟩
  rw [hg0] at hc0 hG0 z990
  rw [hg0]
  refine (seeds_any g _ _ hc0 (by omega)).mono ?_
  rintro e w1 ⟨A2, m, c2, xs, rfl, hm, ol, hc1, hg1⟩
  have hG1 := hG0.trans hg1
  have z1 := hg1.size
  clear hc0 hG0 hg1
  replace ol : OwnI w1 (g + 1) w1.heap.size A2 m c2 xs := OwnI.fit ol (by omega)
  go_wp2_with fail
  refine (one_any g _ _ _ hc1 (by omega) (by omega)).mono ?_
  rintro e w2 ⟨b2, rfl, hc2, hg2⟩
  replace ol := ol.chg hg2 (by omega)
  have hG2 := hG1.trans hg2
  have z2 := hg2.size
  clear hc1 hG1 hg2
  cases b2
  · go_wp2_with fail
    refine (one_any g _ _ _ hc2 (by omega) (by omega)).mono ?_
    rintro e w3 ⟨b3, rfl, hc3, hg3⟩
    replace ol := ol.chg hg3 (by omega)
    have hG3 := hG2.trans hg3
    have z3 := hg3.size
    clear hc2 hG2 hg3
    cases b3
    · go_wp2
      go_ret
      exact ⟨_, m, _, _, rfl, by omega, OwnI.fit ol (by omega), Chg.to_below (by omega) hG3⟩
    · go_wp2_with fail
      refine (pick_any g _ _ _ hc3 (by omega) (by omega)).mono ?_
      rintro e w4 ⟨v4, rfl, v4l, v4u, hc4, hg4⟩
      replace ol := ol.chg hg4 (by omega)
      have hG4 := hG3.trans hg4
      have z4 := hg4.size
      clear hc3 hG3 hg4
      replace v4u : v4 ≤ 1 := by simpa using v4u
      rcases (show v4 = 0 ∨ v4 = 1 by omega) with hv9 | hv9
      · subst hv9
        obtain ⟨i0, hi, hz00, hz1, hz2⟩ := info_parts Try.infoInt
        go_wp2_with (at_make; refine wpList_make_full _ rfl _ _ 30 rfl w4.heap.size 3 i0 _ 1 Try.underlying30 hi hz00 hz1 .i64 .i64 _ _ 400 rfl rfl rfl rfl (by rw [hz2]; omega) (by unfold maxLen; omega) (Nat.le_refl _) ?_; intro w5 hown hg; have b5 : Below w4.heap.size w4 w5 := (Below.refl _ _).grown hg (Nat.le_refl _) (by simp); have hc5 := hc4.below b5)
        rw [map_replicate0] at hown
        have ol5 := OwnI.of_own (Own.mono hown (show g + 1 ≤ w4.heap.size by omega)) (by omega)
        have hG5 := hG4.then_ b5
        have z5 := b5.size
        clear hc4 hG4 hg hown hi hz00 hz1 hz2 b5
        try clear ol
        have ol := ol5
        clear ol5
        go_ret
        exact ⟨_, 400, _, _, rfl, by omega, OwnI.fit ol (by omega), Chg.to_below (by omega) hG5⟩
      · subst hv9
        obtain ⟨i0, hi, hz00, hz1, hz2⟩ := info_parts Try.infoInt
        go_wp2_with (at_make; refine wpList_make_full _ rfl _ _ 30 rfl w4.heap.size 3 i0 _ 1 Try.underlying30 hi hz00 hz1 .i64 .i64 _ _ 401 rfl rfl rfl rfl (by rw [hz2]; omega) (by unfold maxLen; omega) (Nat.le_refl _) ?_; intro w6 hown hg; have b6 : Below w4.heap.size w4 w6 := (Below.refl _ _).grown hg (Nat.le_refl _) (by simp); have hc6 := hc4.below b6)
        rw [map_replicate0] at hown
        have ol6 := OwnI.of_own (Own.mono hown (show g + 1 ≤ w4.heap.size by omega)) (by omega)
        have hG6 := hG4.then_ b6
        have z6 := b6.size
        clear hc4 hG4 hg hown hi hz00 hz1 hz2 b6
        try clear ol
        have ol := ol6
        clear ol6
        go_ret
        exact ⟨_, 401, _, _, rfl, by omega, OwnI.fit ol (by omega), Chg.to_below (by omega) hG6⟩
  · go_wp2_with fail
    refine (pick_any g _ _ _ hc2 (by omega) (by omega)).mono ?_
    rintro e w7 ⟨v7, rfl, v7l, v7u, hc7, hg7⟩
    replace ol := ol.chg hg7 (by omega)
    have hG7 := hG2.trans hg7
    have z7 := hg7.size
    clear hc2 hG2 hg7
    replace v7u : v7 ≤ 59999 := by simpa using v7u
    go_wp2_with fail
    have xlit8 := box_new w7 #[.int .i64 4611686018427387904, .int .i64 (-9223372036854775808)] 3
    replace ol := ol.below (below_new w7 (.cells #[.int .i64 4611686018427387904, .int .i64 (-9223372036854775808)] 3))
    have hc8 := hc7.below (below_new w7 (.cells #[.int .i64 4611686018427387904, .int .i64 (-9223372036854775808)] 3))
    have hG8 := hG7.alloc (.cells #[.int .i64 4611686018427387904, .int .i64 (-9223372036854775808)] 3)
    have z8 : w7.heap.size + 1 ≤ (w7.alloc (.cells #[.int .i64 4611686018427387904, .int .i64 (-9223372036854775808)] 3)).heap.size := by simp
    clear hc7 hG7
    generalize w7.alloc (.cells #[.int .i64 4611686018427387904, .int .i64 (-9223372036854775808)] 3) = u8 at *
    have olit8 := own_lit [4611686018427387904, -9223372036854775808] xlit8 (by decide)
    clear xlit8
    refine (among_any g _ _ _ _ _ _ (-9223372036854775808) (4611686018427387904) [4611686018427387904, -9223372036854775808] _ hc8 (by omega) olit8 (by omega) (by decide) (by decide) (by decide)).mono ?_
    rintro e w9 ⟨v9, rfl, v9l, v9u, hc9, hg9⟩
    replace ol := ol.chg hg9 (by omega)
    have hG9 := hG8.trans hg9
    have z9 := hg9.size
    clear hc8 hG8 hg9
    clear olit8
    go_wp2_with (at_builtin; refine wp_app rfl _ _ rfl (g + 1) A2 m c2 _ rfl (ol.own.below (below_new _ _)) (some ⟨w9.heap.size, 0, none⟩) 2 2 [-1 - v7, v9] rfl (own_new w9 [-1 - v7, v9] 2 rfl (by omega)).ints (by omega) (by simp; omega) ?_; intro A7 c7 w70 hown2 hg2' _; have hg2 := grownBy_trans (World.grownBy_alloc w9 _ _) hg2'; have hrow : ∀ j, rowOf A2 = some j → g + 1 ≤ j := (fun j hj => (ol.row j hj).1); have hc70 := cur_app hc9 hg2 (fun j hj => by have := hrow j hj; omega))
    have hG70 := chg_app hG9 hg2 (fun j hj => by have := hrow j hj; omega)
    have ol70 := OwnI.of_own hown2 (by omega)
    have z70 := hg2.size
    clear ol hc9 hG9 hg2 hg2' hown2 hrow
    have ol := ol70
    clear ol70
    refine (one_any g _ _ _ hc70 (by omega) (by omega)).mono ?_
    rintro e w10 ⟨b10, rfl, hc10, hg10⟩
    replace ol := ol.chg hg10 (by omega)
    have hG10 := hG70.trans hg10
    have z10 := hg10.size
    clear hc70 hG70 hg10
    cases b10
    · go_wp2
      go_ret
      exact ⟨_, m + 2, _, _, rfl, by omega, OwnI.fit ol (by omega), Chg.to_below (by omega) hG10⟩
    · go_wp2_with fail
      refine (pick_any g _ _ _ hc10 (by omega) (by omega)).mono ?_
      rintro e w11 ⟨v11, rfl, v11l, v11u, hc11, hg11⟩
      replace ol := ol.chg hg11 (by omega)
      have hG11 := hG10.trans hg11
      have z11 := hg11.size
      clear hc10 hG10 hg11
      replace v11u : v11 ≤ 1 := by simpa using v11u
      rcases (show v11 = 0 ∨ v11 = 1 by omega) with hv9 | hv9
      · subst hv9
        obtain ⟨i0, hi, hz00, hz1, hz2⟩ := info_parts Try.infoInt
        go_wp2_with (at_make; refine wpList_make_full _ rfl _ _ 30 rfl w11.heap.size 3 i0 _ 1 Try.underlying30 hi hz00 hz1 .i64 .i64 _ _ 400 rfl rfl rfl rfl (by rw [hz2]; omega) (by unfold maxLen; omega) (Nat.le_refl _) ?_; intro w12 hown hg; have b12 : Below w11.heap.size w11 w12 := (Below.refl _ _).grown hg (Nat.le_refl _) (by simp); have hc12 := hc11.below b12)
        rw [map_replicate0] at hown
        have ol12 := OwnI.of_own (Own.mono hown (show g + 1 ≤ w11.heap.size by omega)) (by omega)
        have hG12 := hG11.then_ b12
        have z12 := b12.size
        clear hc11 hG11 hg hown hi hz00 hz1 hz2 b12
        try clear ol
        have ol := ol12
        clear ol12
        go_ret
        exact ⟨_, 400, _, _, rfl, by omega, OwnI.fit ol (by omega), Chg.to_below (by omega) hG12⟩
      · subst hv9
        obtain ⟨i0, hi, hz00, hz1, hz2⟩ := info_parts Try.infoInt
        go_wp2_with (at_make; refine wpList_make_full _ rfl _ _ 30 rfl w11.heap.size 3 i0 _ 1 Try.underlying30 hi hz00 hz1 .i64 .i64 _ _ 401 rfl rfl rfl rfl (by rw [hz2]; omega) (by unfold maxLen; omega) (Nat.le_refl _) ?_; intro w13 hown hg; have b13 : Below w11.heap.size w11 w13 := (Below.refl _ _).grown hg (Nat.le_refl _) (by simp); have hc13 := hc11.below b13)
        rw [map_replicate0] at hown
        have ol13 := OwnI.of_own (Own.mono hown (show g + 1 ≤ w11.heap.size by omega)) (by omega)
        have hG13 := hG11.then_ b13
        have z13 := b13.size
        clear hc11 hG11 hg hown hi hz00 hz1 hz2 b13
        try clear ol
        have ol := ol13
        clear ol13
        go_ret
        exact ⟨_, 401, _, _, rfl, by omega, OwnI.fit ol (by omega), Chg.to_below (by omega) hG13⟩

set_option maxHeartbeats 400000 in
theorem drawChainOf_any (A : Option Addr) (n c : Nat) (w : World) (hb : Byt w A n) (hn : n ≤ 1048576) :
    Calls Try.prog 20 #[.slice A n c] w (TList w) := by
  go_enter Try.func20, Try.ntmps20
  go_wp2_with fail
  refine (drawHashList_any _ _ _ _ hb hn).mono ?_
  rintro e w1 ⟨A2, m, c2, xs, rfl, hm, ho, hb2⟩
  go_wp2
  go_ret
  exact ⟨A2, m, c2, xs, rfl, hm, ho, hb2⟩

theorem box_newAt (w : World) (cs : Array Value) (T : TypeId) {k : Nat} (h : k = w.heap.size) : (w.alloc (.cells cs T)).heap[k]? = some (.cells cs T (0, 0)) := by subst h; exact box_new w cs T
/-- A drawn string. -/
def DStr (g L : Nat) (w : World) (e : Ending) (w' : World) : Prop := ∃ s : ByteArray, e = .returned (.string s) ∧ s.size ≤ 100 ∧ Cur w' g L ∧ Chg g (g + 1) w w'
set_option maxHeartbeats 800000 in
theorem of_any (g L gl n : Nat) (cs : Array Value) (w : World) (h : Cur w g L) (hL : L ≤ 800000) (hx : w.heap[gl]? = some (.cells cs 9 (0, 0))) (hg : g < gl) (hn : 1 ≤ n) (hn2 : n ≤ 1000) (hs : ∀ j, j < n → ∃ s : ByteArray, cs[j]? = some (.string s) ∧ s.size ≤ 100) :
    Calls Try.prog 51 #[.pointer (some ⟨g, 0, none⟩), .slice (some ⟨gl, 0, none⟩) n n] w (DStr g (L + 2) w) := by
  have HS := Lib.hid hs
  clear hs
  go_enter Try.func51, Try.ntmps51
  go_wp2_with fail
  refine (pick_any _ _ _ _ h (by omega) (by omega)).mono ?_
  rintro e w1 ⟨v, rfl, hv0, hv1, hc1, hg1⟩
  have hv2 : v < n := by
    split at hv1 <;> omega
  clear hv1
  obtain ⟨k, rfl⟩ := Int.eq_ofNat_of_zero_le hv0
  have hk : k < n := by omega
  obtain ⟨s, hs1, hs2⟩ := HS.out k hk
  have hx1 := box_chg hx hg1 (by omega)
  have hc := box_cell hx1 k _ hs1
  clear hx hs1 hx1
  go_wp2
  go_ret
  exact ⟨s, rfl, hs2, hc1, hg1⟩

def TStr (w : World) (e : Ending) (w' : World) : Prop := ∃ s : ByteArray, e = .returned (.string s) ∧ s.size ≤ 100 ∧ Below w.heap.size w w'
set_option maxRecDepth 100000 in
set_option maxHeartbeats 600000 in
theorem drawHashWord_any (A : Option Addr) (n c : Nat) (w : World) (hb : Byt w A n) (hn : n ≤ 1048576) :
    Calls Try.prog 28 #[.slice A n c] w (TStr w) := by
  have hz0 : w.heap.size ≤ w.heap.size := Nat.le_refl _
  have hq0 := Below.refl w.heap.size w
  have hbb := hb
  go_enter Try.func28, Try.ntmps28
  go_wp2_with fail
  have xc := box_new w #[.slice A n c, .int .i64 0, .int .u64 0] 51
  have y0 : (w.alloc (.cells #[.slice A n c, .int .i64 0, .int .u64 0] 51)).heap.size = w.heap.size + 1 := by simp
  have hG0 : Chg (w.heap.size) (w.heap.size + 1) w (w.alloc (.cells #[.slice A n c, .int .i64 0, .int .u64 0] 51)) := Chg.of_below (hq0.trans ((below_new w (.cells #[.slice A n c, .int .i64 0, .int .u64 0] 51)).mono hq0.size))
  have hb9 : ∀ b, b < w.heap.size → (w.alloc (.cells #[.slice A n c, .int .i64 0, .int .u64 0] 51)).heap[b]? = w.heap[b]? := fun b hb => hG0.block b hb (.inl (by omega))
  generalize w.alloc (.cells #[.slice A n c, .int .i64 0, .int .u64 0] 51) = u990 at *
  have hc0 := cur_new xc (by omega) hbb hb9 hn
  clear hb9 hbb xc
  have z990 : w.heap.size + 1 = u990.heap.size := y0.symm
  clear y0
  obtain ⟨g, hg0⟩ : ∃ g, w.heap.size = g := ⟨_, rfl⟩
  rw [hg0] at hc0 hG0 z990
  rw [hg0]
  refine (of_any g _ _ _ _ _ (hc0.below (below_new _ _)) (by omega) (box_newAt _ _ _ z990) (by omega) (by omega) (by omega) (fun j hj => by rcases (show j = 0 ∨ j = 1 ∨ j = 2 ∨ j = 3 ∨ j = 4 ∨ j = 5 by omega) with rfl | rfl | rfl | rfl | rfl | rfl <;> exact ⟨_, rfl, by decide⟩)).mono ?_
  rintro e w1 ⟨str, rfl, hstr, hc1, hg1⟩
  have hG1 := (hG0.alloc _).trans hg1
  have z1 : u990.heap.size ≤ w1.heap.size := by have := hg1.size; simp at this; omega
  clear hc0 hG0 hg1
  go_wp2
  go_ret
  exact ⟨str, rfl, hstr, Chg.to_below (by omega) hG1⟩

def TIStr (w : World) (e : Ending) (w' : World) : Prop := ∃ (a : Int) (s : ByteArray), e = .returned (.tuple #[.int .i64 a, .string s]) ∧ s.size ≤ 100 ∧ Below w.heap.size w w'
set_option maxRecDepth 100000 in
set_option maxHeartbeats 600000 in
theorem drawDerivedSeed_any (A : Option Addr) (n c : Nat) (w : World) (hb : Byt w A n) (hn : n ≤ 1048576) :
    Calls Try.prog 31 #[.slice A n c] w (TIStr w) := by
  have hz0 : w.heap.size ≤ w.heap.size := Nat.le_refl _
  have hq0 := Below.refl w.heap.size w
  have hbb := hb
  go_enter Try.func31, Try.ntmps31
  go_wp2_with fail
  have xc := box_new w #[.slice A n c, .int .i64 0, .int .u64 0] 51
  have y0 : (w.alloc (.cells #[.slice A n c, .int .i64 0, .int .u64 0] 51)).heap.size = w.heap.size + 1 := by simp
  have hG0 : Chg (w.heap.size) (w.heap.size + 1) w (w.alloc (.cells #[.slice A n c, .int .i64 0, .int .u64 0] 51)) := Chg.of_below (hq0.trans ((below_new w (.cells #[.slice A n c, .int .i64 0, .int .u64 0] 51)).mono hq0.size))
  have hb9 : ∀ b, b < w.heap.size → (w.alloc (.cells #[.slice A n c, .int .i64 0, .int .u64 0] 51)).heap[b]? = w.heap[b]? := fun b hb => hG0.block b hb (.inl (by omega))
  generalize w.alloc (.cells #[.slice A n c, .int .i64 0, .int .u64 0] 51) = u990 at *
  have hc0 := cur_new xc (by omega) hbb hb9 hn
  clear hb9 hbb xc
  have z990 : w.heap.size + 1 = u990.heap.size := y0.symm
  clear y0
  obtain ⟨g, hg0⟩ : ∃ g, w.heap.size = g := ⟨_, rfl⟩
  rw [hg0] at hc0 hG0 z990
  rw [hg0]
  refine (of_any g _ _ _ _ _ (hc0.below (below_new _ _)) (by omega) (box_newAt _ _ _ z990) (by omega) (by omega) (by omega) (fun j hj => by rcases (show j = 0 ∨ j = 1 ∨ j = 2 ∨ j = 3 ∨ j = 4 by omega) with rfl | rfl | rfl | rfl | rfl <;> exact ⟨_, rfl, by decide⟩)).mono ?_
  rintro e w1 ⟨str, rfl, hstr, hc1, hg1⟩
  have hG1 := (hG0.alloc _).trans hg1
  have z1 : u990.heap.size ≤ w1.heap.size := by have := hg1.size; simp at this; omega
  clear hc0 hG0 hg1
  go_wp2_with fail
  refine (anySeed_any g _ _ hc1 (by omega)).mono ?_
  rintro e w2 ⟨v2, rfl, v2l, v2u, hc2, hg2⟩
  have hG2 := hG1.trans hg2
  have z2 := hg2.size
  clear hc1 hG1 hg2
  go_wp2
  go_ret2
  exact ⟨v2, str, rfl, hstr, Chg.to_below (by omega) hG2⟩

theorem chainV_bd {xs : List Int} (h : chainB xs = true) : (chainV xs).length ≤ 392 ∧ ∀ j, j < (chainV xs).length → 0 ≤ (chainV xs)[j]?.getD 0 ∧ (chainV xs)[j]?.getD 0 ≤ 4611686016279904236 := by
  have hn : xs.length ≤ 392 := by simpa [chainB] using h
  have e : chainV xs = chainL xs := by unfold chainV; rw [if_pos hn]
  rw [e]
  unfold chainL
  rw [tabl_len]
  refine ⟨hn, fun j hj => ?_⟩
  rw [tabl_at hj]
  exact dig_bd _ (by simp)

def TTwoO (w : World) (e : Ending) (w' : World) : Prop := ∃ (A : Option Addr) (m c : Nat) (xs : List Int) (A' : Option Addr) (m' c' : Nat) (ys : List Int), e = .returned (.tuple #[.slice A m c, .slice A' m' c']) ∧ OwnI w' w.heap.size w'.heap.size A m c xs ∧ OwnI w' w.heap.size w'.heap.size A' m' c' ys ∧ Below w.heap.size w w'
set_option maxRecDepth 100000 in
set_option maxHeartbeats 4000000 in
theorem drawFirstBadLink_any (A : Option Addr) (n c : Nat) (w : World) (hb : Byt w A n) (hn : n ≤ 1048576) :
    Calls Try.prog 24 #[.slice A n c] w (TTwoO w) := by
  have hz0 : w.heap.size ≤ w.heap.size := Nat.le_refl _
  have hq0 := Below.refl w.heap.size w
  have hbb := hb
  go_enter Try.func24, Try.ntmps24
  go_wp2_with fail
  have xc := box_new w #[.slice A n c, .int .i64 0, .int .u64 0] 51
  have y0 : (w.alloc (.cells #[.slice A n c, .int .i64 0, .int .u64 0] 51)).heap.size = w.heap.size + 1 := by simp
  have hG0 : Chg (w.heap.size) (w.heap.size + 1) w (w.alloc (.cells #[.slice A n c, .int .i64 0, .int .u64 0] 51)) := Chg.of_below (hq0.trans ((below_new w (.cells #[.slice A n c, .int .i64 0, .int .u64 0] 51)).mono hq0.size))
  have hb9 : ∀ b, b < w.heap.size → (w.alloc (.cells #[.slice A n c, .int .i64 0, .int .u64 0] 51)).heap[b]? = w.heap[b]? := fun b hb => hG0.block b hb (.inl (by omega))
  generalize w.alloc (.cells #[.slice A n c, .int .i64 0, .int .u64 0] 51) = u990 at *
  have hc0 := cur_new xc (by omega) hbb hb9 hn
  clear hb9 hbb xc
  have z990 : w.heap.size + 1 = u990.heap.size := y0.symm
  clear y0
  obtain ⟨g, hg0⟩ : ∃ g, w.heap.size = g := ⟨_, rfl⟩
  rw [hg0] at hc0 hG0 z990
  rw [hg0]
  have hbq : Below w.heap.size w u990 := Chg.to_below (by omega) hG0
  refine (drawHashList_any A n c u990 (hb.below hbq) hn).mono ?_
  rintro e w20 ⟨A2, m2, c2, xs, rfl, hm2, ol, b20⟩
  have hc20 := hc0.below b20
  have hG20 := hG0.then_ b20
  have z20 := b20.size
  clear hc0 hG0 b20 hbq
  go_wp2_with fail
  refine (specChainOf_law _ _ _ _ _ ol.ints ol.small).mono ?_
  rintro e w21 ⟨A4, c4, rfl, os, b21⟩
  replace ol := ol.below b21
  have hc21 := hc20.below b21
  have hG21 := hG20.then_ b21
  have z21 := b21.size
  clear hc20 hG20 b21
  have hsl : Hid (chainB xs = true → (chainV xs).length ≤ 392 ∧ ∀ j, j < (chainV xs).length → 0 ≤ (chainV xs)[j]?.getD 0 ∧ (chainV xs)[j]?.getD 0 ≤ 4611686016279904236) := Lib.hid fun h => chainV_bd h
  obtain ⟨SS, hSS⟩ : ∃ SS, chainV xs = SS := ⟨_, rfl⟩
  rw [hSS] at os hsl ⊢
  clear hSS
  cases hP : chainB xs
  · clear hP hsl os
    go_wp2
    go_ret2
    exact ⟨A2, m2, c2, xs, A2, m2, c2, xs, rfl, OwnI.fit ol (by omega), OwnI.fit ol (by omega), Chg.to_below (by omega) hG21⟩
  · have hs3 := (hsl.out hP).1
    have HBD := Lib.hid (hsl.out hP).2
    clear hP hsl
    obtain ⟨N, hN⟩ : ∃ N, SS.length = N := ⟨_, rfl⟩
    rw [hN] at os hs3 HBD ⊢
    clear hN
    by_cases hN0 : 0 < N
    · go_wp2_with fail
      refine (one_any g _ _ _ hc21 (by omega) (by omega)).mono ?_
      rintro e w1 ⟨b1, rfl, hc1, hg1⟩
      replace ol := ol.chg hg1 (by omega)
      replace os := os.chg hg1 (by omega)
      have hG1 := hG21.trans hg1
      have z1 := hg1.size
      clear hc21 hG21 hg1
      cases b1
      · go_wp2_with fail
        refine (one_any g _ _ _ hc1 (by omega) (by omega)).mono ?_
        rintro e w2 ⟨b2, rfl, hc2, hg2⟩
        replace ol := ol.chg hg2 (by omega)
        replace os := os.chg hg2 (by omega)
        have hG2 := hG1.trans hg2
        have z2 := hg2.size
        clear hc1 hG1 hg2
        cases b2
        · go_wp2
          go_ret2
          exact ⟨A2, m2, c2, xs, _, _, _, _, rfl, OwnI.fit ol (by omega), OwnI.fit os (by omega), Chg.to_below (by omega) hG2⟩
        · go_wp2_with (at_builtin; refine wp_app1 rfl _ _ rfl w20.heap.size _ _ _ _ rfl os.own _ rfl rfl (by omega) (by omega) ?_; intro A9 c9 w90 hown2 hg2 _)
          have hrow := os.row
          have hg3 := Chg.of_grown hg2 hrow
          have hl9 := ol.chg hg3 (.inl (Nat.le_refl _))
          have hG9 := chg_app hG2 hg2 (fun j hj => by have := hrow j hj; omega)
          have ho9 := OwnI.of_own hown2 (by omega)
          have z9 := hg2.size
          clear ol os hc2 hG2 hg2 hg3 hown2
          go_wp2
          go_ret2
          exact ⟨A2, m2, c2, xs, A9, _, c9, _, rfl, OwnI.fit hl9 (by omega), OwnI.fit ho9 (by omega), Chg.to_below (by omega) hG9⟩
      · go_wp2_with fail
        refine (pick_any g _ _ _ hc1 (by omega) (by omega)).mono ?_
        rintro e w3 ⟨v3, rfl, v3l, v3u, hc3, hg3⟩
        replace ol := ol.chg hg3 (by omega)
        replace os := os.chg hg3 (by omega)
        have hG3 := hG1.trans hg3
        have z3 := hg3.size
        clear hc1 hG1 hg3
        replace v3u : v3 ≤ N - 1 := by split at v3u <;> omega
        obtain ⟨vn, hvn⟩ := Int.eq_ofNat_of_zero_le v3l
        subst hvn
        have hvn2 : vn < N := by omega
        obtain ⟨gs, hgs, hgs2, hgs3, hcs, hfs⟩ := os.own.at_ hvn2
        subst hgs
        have hzs : gs < w21.heap.size := os.top gs rfl
        have hxb := HBD.out vn hvn2
        obtain ⟨x, hxe⟩ : ∃ x, SS[vn]?.getD 0 = x := ⟨_, rfl⟩
        rw [hxe] at hcs hxb
        have hx0 := hxb.1
        have hx1 := hxb.2
        clear hxe hxb
        have HO2 := Lib.hid (show OwnI (w3.setCell ⟨gs, vn, none⟩ (.int .i64 (x + 1))) w20.heap.size w21.heap.size (some ⟨gs, 0, none⟩) N c4 (SS.set vn (x + 1)) from ⟨os.own.set, os.top, os.small⟩)
        have HCH := ((Chg.refl gs (gs + 1) w3).set (g := gs) (i := vn) (v := .int .i64 (x + 1)) (Nat.le_refl _) (by omega))
        have HL2 := Lib.hid (ol.chg HCH (.inl hgs2))
        have HC2 := Lib.hid (hc3.far (p := ⟨gs, vn, none⟩) (by show g < gs; omega) (.int .i64 (x + 1)))
        have HG2 := Lib.hid (hG3.setNewD (p := ⟨gs, vn, none⟩) (by show w.heap.size ≤ gs; omega) (.int .i64 (x + 1)))
        have HZ2 : w3.heap.size ≤ (w3.setCell ⟨gs, vn, none⟩ (.int .i64 (x + 1))).heap.size := by simp [World.setCell]
        clear ol os hc3 hG3 HCH
        go_wp2_with fail
        generalize w3.setCell ⟨gs, vn, none⟩ (.int .i64 (x + 1)) = w40 at *
        have os := HO2.out
        have ol := HL2.out
        have hc40 := HC2.out
        have hG40 := HG2.out
        clear HO2 HL2 HC2 HG2 hcs hfs
        refine (one_any g _ _ _ hc40 (by omega) (by omega)).mono ?_
        rintro e w4 ⟨b4, rfl, hc4, hg4⟩
        replace ol := ol.chg hg4 (by omega)
        replace os := os.chg hg4 (by omega)
        have hG4 := hG40.trans hg4
        have z4 := hg4.size
        clear hc40 hG40 hg4
        cases b4
        · go_wp2
          go_ret2
          exact ⟨A2, m2, c2, xs, _, _, _, _, rfl, OwnI.fit ol (by omega), OwnI.fit os (by omega), Chg.to_below (by omega) hG4⟩
        · go_wp2_with (at_builtin; refine wp_app1 rfl _ _ rfl w20.heap.size _ _ _ _ rfl os.own _ rfl rfl (by omega) (by omega) ?_; intro A9 c9 w90 hown2 hg2 _)
          have hrow := os.row
          have hg3 := Chg.of_grown hg2 hrow
          have hl9 := ol.chg hg3 (.inl (Nat.le_refl _))
          have hG9 := chg_app hG4 hg2 (fun j hj => by have := hrow j hj; omega)
          have ho9 := OwnI.of_own hown2 (by omega)
          have z9 := hg2.size
          clear ol os hc4 hG4 hg2 hg3 hown2
          go_wp2
          go_ret2
          exact ⟨A2, m2, c2, xs, A9, _, c9, _, rfl, OwnI.fit hl9 (by omega), OwnI.fit ho9 (by omega), Chg.to_below (by omega) hG9⟩
    · have hN1 : N = 0 := by omega
      subst hN1
      go_wp2_with fail
      refine (one_any g _ _ _ hc21 (by omega) (by omega)).mono ?_
      rintro e w5 ⟨b5, rfl, hc5, hg5⟩
      replace ol := ol.chg hg5 (by omega)
      replace os := os.chg hg5 (by omega)
      have hG5 := hG21.trans hg5
      have z5 := hg5.size
      clear hc21 hG21 hg5
      cases b5
      · go_wp2
        go_ret2
        exact ⟨A2, m2, c2, xs, _, _, _, _, rfl, OwnI.fit ol (by omega), OwnI.fit os (by omega), Chg.to_below (by omega) hG5⟩
      · go_wp2_with (at_builtin; refine wp_app1 rfl _ _ rfl w20.heap.size _ _ _ _ rfl os.own _ rfl rfl (by omega) (by omega) ?_; intro A9 c9 w90 hown2 hg2 _)
        have hrow := os.row
        have hg3 := Chg.of_grown hg2 hrow
        have hl9 := ol.chg hg3 (.inl (Nat.le_refl _))
        have hG9 := chg_app hG5 hg2 (fun j hj => by have := hrow j hj; omega)
        have ho9 := OwnI.of_own hown2 (by omega)
        have z9 := hg2.size
        clear ol os hc5 hG5 hg2 hg3 hown2
        go_wp2
        go_ret2
        exact ⟨A2, m2, c2, xs, A9, _, c9, _, rfl, OwnI.fit hl9 (by omega), OwnI.fit ho9 (by omega), Chg.to_below (by omega) hG9⟩
end Go.Proofs.Ytfkgpccanagioaa
