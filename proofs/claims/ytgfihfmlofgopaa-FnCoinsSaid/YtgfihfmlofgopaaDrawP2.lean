/- The drawn list of weights. -/
import Derived.Test.YtgfihfmlofgopaaDraw
namespace Go.Proofs.Ytgfihfmlofgopaa
open Go.RowKit

theorem OwnI.setP {w : World} {lo hi g n c k : Nat} {xs : List Int} {x : Int} (h : OwnI w lo hi (some ⟨g, 0, none⟩) n c xs) : OwnI (w.setCell ⟨g, k, none⟩ (.int .i64 x)) lo hi (some ⟨g, 0, none⟩) n c (xs.set k x) := ⟨h.own.set, h.top, h.small⟩

def DrawPickOfP (w : World) (e : Ending) (w' : World) : Prop := ∃ (a b : Int) (A2 : Option Addr) (m c2 : Nat) (xs : List Int), e = .returned (.tuple #[.agg #[.int .i64 a, .int .i64 b], .slice A2 m c2]) ∧ m ≤ 200 ∧ OwnI w' w.heap.size w'.heap.size A2 m c2 xs ∧ Below w.heap.size w w'
set_option maxRecDepth 100000 in
set_option maxHeartbeats 4000000 in
theorem drawPickOf_any (A : Option Addr) (n c : Nat) (w : World) (hb : Byt w A n) (hn : n ≤ 1048576) :
    Calls Try.prog 11 #[.slice A n c] w (DrawPickOfP w) := by
  have hz0 : w.heap.size ≤ w.heap.size := Nat.le_refl _
  have hq0 := Below.refl w.heap.size w
  have hbb := hb
  go_enter Try.func11, Try.ntmps11
  go_wp2_with fail
  have xr0 := box_new w #[.int .i64 0, .int .i64 0] 25
  have y0 : (w.alloc (.cells #[.int .i64 0, .int .i64 0] 25)).heap.size = w.heap.size + 1 := by simp
  have hq1 := hq0.trans ((below_new w (.cells #[.int .i64 0, .int .i64 0] 25)).mono hq0.size)
  generalize w.alloc (.cells #[.int .i64 0, .int .i64 0] 25) = u900 at *
  have xc := box_new u900 #[.slice A n c, .int .i64 0, .int .u64 0] 52
  replace xr0 := box_below xr0 (below_new u900 (.cells #[.slice A n c, .int .i64 0, .int .u64 0] 52))
  rw [y0] at xc
  have y1 : (u900.alloc (.cells #[.slice A n c, .int .i64 0, .int .u64 0] 52)).heap.size = w.heap.size + 1 + 1 := by simp [y0]
  have hG0 : Chg (w.heap.size + 1) (w.heap.size + 1 + 1) w (u900.alloc (.cells #[.slice A n c, .int .i64 0, .int .u64 0] 52)) := Chg.of_below (hq1.trans ((below_new u900 (.cells #[.slice A n c, .int .i64 0, .int .u64 0] 52)).mono hq1.size))
  have hb9 : ∀ b, b < w.heap.size → (u900.alloc (.cells #[.slice A n c, .int .i64 0, .int .u64 0] 52)).heap[b]? = w.heap[b]? := fun b hb => hG0.block b hb (.inl (by omega))
  generalize u900.alloc (.cells #[.slice A n c, .int .i64 0, .int .u64 0] 52) = u990 at *
  have hc0 := cur_new xc (by omega) hbb hb9 hn
  clear hb9 hbb xc
  clear y0
  have z990 : w.heap.size + 1 + 1 = u990.heap.size := y1.symm
  clear y1
  obtain ⟨g, hg0⟩ : ∃ g, w.heap.size + 1 = g := ⟨_, rfl⟩
  rw [hg0] at hc0 hG0 z990
  rw [hg0]
  refine (anyStream_any g _ _ hc0 (by omega)).mono ?_
  rintro e w1 ⟨p1, q1, rfl, hc1, hg1⟩
  replace xr0 := box_chg xr0 hg1 (by omega)
  have hG1 := hG0.trans hg1
  have z1 := hg1.size
  clear hc0 hG0 hg1
  go_wp2_with fail
  have xs := box_new w1 #[.int .i64 p1, .int .i64 q1] 25
  replace xr0 := box_below xr0 (below_new w1 (.cells #[.int .i64 p1, .int .i64 q1] 25))
  have hc2 := hc1.below (below_new w1 (.cells #[.int .i64 p1, .int .i64 q1] 25))
  have hG2 := hG1.alloc (.cells #[.int .i64 p1, .int .i64 q1] 25)
  have z2 : w1.heap.size + 1 ≤ (w1.alloc (.cells #[.int .i64 p1, .int .i64 q1] 25)).heap.size := by simp
  clear hc1 hG1
  generalize w1.alloc (.cells #[.int .i64 p1, .int .i64 q1] 25) = u2 at *
  refine (pick_any g _ _ _ hc2 (by omega) (by omega)).mono ?_
  rintro e w3 ⟨v3, rfl, v3l, v3u, hc3, hg3⟩
  replace xr0 := box_chg xr0 hg3 (by omega)
  replace xs := box_chg xs hg3 (by omega)
  have hG3 := hG2.trans hg3
  have z3 := hg3.size
  clear hc2 hG2 hg3
  replace v3u : v3 ≤ 5 := by simpa using v3u
  have hgs : g + 1 ≤ w1.heap.size := by omega
  have hRg : w.heap.size < g := by omega
  obtain ⟨kk, hkk⟩ := Int.eq_ofNat_of_zero_le v3l
  subst hkk
  have hk7 : kk ≤ 5 := by omega
  clear v3l v3u
  have lss := lt_of_block xs
  go_wp2_with fail
  go_loopw [6, 7] (fun l i wr => ∃ (k m : Nat) (A2 : Option Addr) (c2 : Nat) (xs : List Int), l = .slice A2 m c2 ∧ i = .int .i64 k ∧ m + k ≤ 5 ∧ OwnI wr (w1.heap.size + 1) wr.heap.size A2 m c2 xs ∧ Cur wr g (18 + 2 * (5 - k)) ∧ wr.heap[w.heap.size]? = some (.cells #[.int .i64 0, .int .i64 0] 25 (0, 0)) ∧ wr.heap[w1.heap.size]? = some (.cells #[.int .i64 p1, .int .i64 q1] 25 (0, 0)) ∧ Chg g (g + 1) w wr ∧ w1.heap.size + 1 ≤ wr.heap.size) (fun _ i _ => (intOf i).toNat)
  case atStart => exact ⟨kk, 0, none, 0, [], rfl, rfl, by omega, ⟨Own.nil_, fun k hk => by simp [rowOf] at hk, by omega⟩, hc3.mono (by omega), xr0, xs, hG3, by omega⟩
  case round =>
    clear hc3 xr0 xs hG3 hk7 lss
    obtain ⟨k, m, A2, c2, ws, rfl, rfl, hmk, hO, hc, xr0, xs, hG, hz⟩ := hrel
    by_cases h0 : 0 < k
    · obtain ⟨j, rfl⟩ : ∃ j, k = j + 1 := ⟨k - 1, by omega⟩
      have hjk : 18 + 2 * (5 - (j + 1)) + 2 = 18 + 2 * (5 - j) := by omega
      go_wp2_with fail
      refine (pick_any g _ _ _ hc (by omega) (by omega)).mono ?_
      rintro e w5 ⟨v, rfl, hv0, hv1, hc5, hg5⟩
      clear hv1
      rw [hjk] at hc5
      replace xr0 := box_chg xr0 hg5 (by omega)
      replace xs := box_chg xs hg5 (by omega)
      replace hO := hO.chg hg5 (by omega)
      have hz5 := hg5.size
      have hG5 := hG.trans hg5
      clear hc hG hg5
      go_wp2_with (at_builtin; refine wp_app1 rfl _ _ rfl (w1.heap.size + 1) A2 m c2 _ rfl hO.own _ rfl rfl (by omega) (by omega) ?_; intro A3 c3 w6 hown2 hg2 _)
      have hrow : ∀ j, rowOf A2 = some j → w1.heap.size < j := fun j hj => (hO.row j hj).1
      have hrg : ∀ j, rowOf A2 = some j → g < j := fun j hj => by have := hrow j hj; omega
      have hc6 := cur_app hc5 hg2 hrg
      have x6 := box_app xr0 hg2 hrg (by omega)
      have x7 := box_app xs hg2 hrow (Nat.le_refl _)
      have hG6 := chg_app hG5 hg2 (fun j hj => by have := hrow j hj; omega)
      have hO6 := OwnI.of_own hown2 (by omega)
      have hz6 := hg2.size
      clear hO hc5 xr0 xs hG5 hg2 hown2
      go_wp2
      go_roundw
      case rel => exact ⟨j, m + 1, A3, c3, _, rfl, by go_num, by omega, hO6, hc6, x6, x7, hG6, by omega⟩
      case measure => simp [intOf]
    · obtain rfl : k = 0 := by omega
      have hc0' := hc.mono (show 18 + 2 * (5 - 0) ≤ 28 by omega)
      clear hc h0
      have ol := hO
      have zz := hz
      clear hO hz
      go_wp2_with fail
      refine (pick_any g _ _ _ hc0' (by omega) (by omega)).mono ?_
      rintro e w4 ⟨v4, rfl, v4l, v4u, hc4, hg4⟩
      replace xr0 := box_chg xr0 hg4 (by omega)
      replace xs := box_chg xs hg4 (by omega)
      replace ol := ol.chg hg4 (by omega)
      have hG4 := hG.trans hg4
      have z4 := hg4.size
      clear hc0' hG hg4
      replace v4u : v4 ≤ 23 := by simpa using v4u
      by_cases tv40 : v4 = 0
      · subst tv40
        go_wp2_with fail
        have xlit5 := box_new w4 #[.int .i64 (-1), .int .i64 1000000, .int .i64 1000001] 3
        replace xr0 := box_below xr0 (below_new w4 (.cells #[.int .i64 (-1), .int .i64 1000000, .int .i64 1000001] 3))
        replace xs := box_below xs (below_new w4 (.cells #[.int .i64 (-1), .int .i64 1000000, .int .i64 1000001] 3))
        replace ol := ol.below (below_new w4 (.cells #[.int .i64 (-1), .int .i64 1000000, .int .i64 1000001] 3))
        have hc5 := hc4.below (below_new w4 (.cells #[.int .i64 (-1), .int .i64 1000000, .int .i64 1000001] 3))
        have hG5 := hG4.alloc (.cells #[.int .i64 (-1), .int .i64 1000000, .int .i64 1000001] 3)
        have z5 : w4.heap.size + 1 ≤ (w4.alloc (.cells #[.int .i64 (-1), .int .i64 1000000, .int .i64 1000001] 3)).heap.size := by simp
        clear hc4 hG4
        generalize w4.alloc (.cells #[.int .i64 (-1), .int .i64 1000000, .int .i64 1000001] 3) = u5 at *
        have olit5 := own_lit [-1, 1000000, 1000001] xlit5 (by decide)
        clear xlit5
        refine (among_any g _ _ _ _ _ _ (-1) (1000001) [-1, 1000000, 1000001] _ hc5 (by omega) olit5 (by omega) (by decide) (by decide) (by decide)).mono ?_
        rintro e w6 ⟨v6, rfl, v6l, v6u, hc6, hg6⟩
        replace xr0 := box_chg xr0 hg6 (by omega)
        replace xs := box_chg xs hg6 (by omega)
        replace ol := ol.chg hg6 (by omega)
        have hG6 := hG5.trans hg6
        have z6 := hg6.size
        clear hc5 hG5 hg6
        clear olit5
        go_wp2_with (at_builtin; refine wp_app1 rfl _ _ rfl (w1.heap.size + 1) A2 m c2 _ rfl ol.own _ rfl rfl (by omega) (by omega) ?_; intro A3 c3 w66 hown2 hg2 _; have hrow : ∀ j, rowOf A2 = some j → w1.heap.size < j := (fun j hj => (ol.row j hj).1); have hrg : ∀ j, rowOf A2 = some j → g < j := (fun j hj => by have := hrow j hj; omega); have hc66 := cur_app hc6 hg2 hrg; have x6 := box_app xr0 hg2 hrg (by omega); have x7 := box_app xs hg2 hrow (Nat.le_refl _); have hG66 := chg_app hG6 hg2 (fun j hj => by have := hrow j hj; omega); have hO66 := OwnI.of_own hown2 (by omega); have hz66 := hg2.size; clear ol xr0 xs hc6 hG6 hg2 hown2; have ol := hO66; have xr0 := x6; have xs := x7; clear hO66 x6 x7; have lr0 := lt_of_block xr0; have ls := lt_of_block xs; have cs0 := box_cell xs 0 _ rfl; have cs1 := box_cell xs 1 _ rfl; have cr00 := box_cell xr0 0 _ rfl; have cr01 := box_cell xr0 1 _ rfl; have fr0 := box_free xr0 0; have fr1 := box_free xr0 1)
        have qs9 := store_two xr0 (.int .i64 p1) (.int .i64 q1)
        have e10 := box_cell qs9 0 _ rfl
        have e11 := box_cell qs9 1 _ rfl
        have HB9 := Lib.hid (Chg.to_below (by omega) ((hG66.setNewD (p := ⟨w.heap.size, 0, none⟩) (by show w.heap.size ≤ w.heap.size; omega) (.int .i64 p1)).setNewD (p := ⟨w.heap.size, 1, none⟩) (by show w.heap.size ≤ w.heap.size; omega) (.int .i64 q1)))
        have HO9 := Lib.hid (OwnI.fit (ol.chg (((Chg.refl (w.heap.size) (w.heap.size + 1) w66).set (i := 0) (v := .int .i64 p1) (Nat.le_refl _) (by omega)).set (i := 1) (v := .int .i64 q1) (Nat.le_refl _) (by omega)) (by omega)) (show w.heap.size ≤ w1.heap.size + 1 by omega))
        clear ol hc66 hG66
        exact bodyPost_ret (v := .tuple #[.agg #[.int .i64 p1, .int .i64 q1], .slice _ (m + 1) _]) (by simp [results, Try.results11, go_sem, e10, e11]; first | done | exact ⟨rfl, rfl⟩) rfl ⟨p1, q1, _, m + 1, _, _, rfl, by omega, HO9.out, HB9.out⟩
      · have tv40E : (v4 == 0) = false := by rw [beq_eq_false_iff_ne]; exact tv40
        by_cases tv41 : v4 = 1
        · subst tv41
          go_wp2_with fail
          refine (pick_any g _ _ _ hc4 (by omega) (by omega)).mono ?_
          rintro e w7 ⟨v7, rfl, v7l, v7u, hc7, hg7⟩
          replace xr0 := box_chg xr0 hg7 (by omega)
          replace xs := box_chg xs hg7 (by omega)
          replace ol := ol.chg hg7 (by omega)
          have hG7 := hG4.trans hg7
          have z7 := hg7.size
          clear hc4 hG4 hg7
          replace v7u : v7 ≤ 1 := by simpa using v7u
          obtain ⟨i0, hi, hz00, hz1, hz2⟩ := info_parts Try.infoInt
          rcases (show v7 = 0 ∨ v7 = 1 by omega) with hv9 | hv9
          · subst hv9
            go_wp2_with (at_make; refine wpList_make_full _ rfl _ _ 32 rfl w7.heap.size 3 i0 _ 1 Try.underlying32 hi hz00 hz1 .i64 .i64 _ _ 60 rfl rfl rfl rfl (by rw [hz2]; omega) (by unfold maxLen; omega) (Nat.le_refl _) ?_; intro w6 hown hg; have b6 : Below w7.heap.size w7 w6 := (Below.refl _ _).grown hg (Nat.le_refl _) (by simp); have hc6 := hc7.below b6; rw [map_replicate0] at hown; have hO6 := OwnI.of_own (Own.mono hown (show w1.heap.size + 1 ≤ w7.heap.size by omega)) (by omega); obtain ⟨gl, hgl, hgl0, hgl1, hcl, hfl⟩ := hO6.own.at_ (k := 59) (by omega); have xs6 := box_below xs b6; have xr6 := box_below xr0 b6; have hG6 := hG7.then_ b6; have hz6 := b6.size; clear ol xs xr0 hc7 hG7 hg hown hi hz00 hz1 hz2 b6; obtain rfl : w7.heap.size = gl := congrArg (fun o : Option Addr => match o with | some ad => ad.block | none => 0) hgl; have hO7 := OwnI.setP (x := 1) (k := 59) hO6; have xs7 := box_off xs6 (p := ⟨w7.heap.size, 59, none⟩) (by show w1.heap.size ≠ w7.heap.size; omega) (.int .i64 1); have xr7 := box_off xr6 (p := ⟨w7.heap.size, 59, none⟩) (by show w.heap.size ≠ w7.heap.size; omega) (.int .i64 1); have hG7 := hG6.setNewD (p := ⟨w7.heap.size, 59, none⟩) (by show w.heap.size ≤ w7.heap.size; omega) (.int .i64 1); clear hO6 hG6 hgl hgl0; have lr0 := lt_of_block xr6; have ls := lt_of_block xs6; have cs0 := box_cell xs7 0 _ rfl; have cs1 := box_cell xs7 1 _ rfl; have cr00 := box_cell xr7 0 _ rfl; have cr01 := box_cell xr7 1 _ rfl; have fr0 := box_free xr7 0; have fr1 := box_free xr7 1)
            have ol := hO7
            have xr0 := xr7
            have hz7 := hz6
            clear hO7 xr7 xs7 hc6
            have qs9 := store_two xr0 (.int .i64 p1) (.int .i64 q1)
            have e10 := box_cell qs9 0 _ rfl
            have e11 := box_cell qs9 1 _ rfl
            have HB9 := Lib.hid (Chg.to_below (by omega) ((hG7.setNewD (p := ⟨w.heap.size, 0, none⟩) (by show w.heap.size ≤ w.heap.size; omega) (.int .i64 p1)).setNewD (p := ⟨w.heap.size, 1, none⟩) (by show w.heap.size ≤ w.heap.size; omega) (.int .i64 q1)))
            have HO9 := Lib.hid (OwnI.fit (ol.chg (((Chg.refl (w.heap.size) (w.heap.size + 1) (w6.setCell ⟨w7.heap.size, 59, none⟩ (.int .i64 1))).set (i := 0) (v := .int .i64 p1) (Nat.le_refl _) (by omega)).set (i := 1) (v := .int .i64 q1) (Nat.le_refl _) (by omega)) (by omega)) (show w.heap.size ≤ w1.heap.size + 1 by omega))
            clear ol hz7 hG7
            exact bodyPost_ret (v := .tuple #[.agg #[.int .i64 p1, .int .i64 q1], .slice _ (60) _]) (by simp [results, Try.results11, go_sem, e10, e11]; first | done | exact ⟨rfl, rfl⟩) rfl ⟨p1, q1, _, 60, _, _, rfl, by omega, HO9.out, HB9.out⟩
          · subst hv9
            go_wp2_with (at_make; refine wpList_make_full _ rfl _ _ 32 rfl w7.heap.size 3 i0 _ 1 Try.underlying32 hi hz00 hz1 .i64 .i64 _ _ 61 rfl rfl rfl rfl (by rw [hz2]; omega) (by unfold maxLen; omega) (Nat.le_refl _) ?_; intro w6 hown hg; have b6 : Below w7.heap.size w7 w6 := (Below.refl _ _).grown hg (Nat.le_refl _) (by simp); have hc6 := hc7.below b6; rw [map_replicate0] at hown; have hO6 := OwnI.of_own (Own.mono hown (show w1.heap.size + 1 ≤ w7.heap.size by omega)) (by omega); obtain ⟨gl, hgl, hgl0, hgl1, hcl, hfl⟩ := hO6.own.at_ (k := 59) (by omega); have xs6 := box_below xs b6; have xr6 := box_below xr0 b6; have hG6 := hG7.then_ b6; have hz6 := b6.size; clear ol xs xr0 hc7 hG7 hg hown hi hz00 hz1 hz2 b6; obtain rfl : w7.heap.size = gl := congrArg (fun o : Option Addr => match o with | some ad => ad.block | none => 0) hgl; have hO7 := OwnI.setP (x := 1) (k := 59) hO6; have xs7 := box_off xs6 (p := ⟨w7.heap.size, 59, none⟩) (by show w1.heap.size ≠ w7.heap.size; omega) (.int .i64 1); have xr7 := box_off xr6 (p := ⟨w7.heap.size, 59, none⟩) (by show w.heap.size ≠ w7.heap.size; omega) (.int .i64 1); have hG7 := hG6.setNewD (p := ⟨w7.heap.size, 59, none⟩) (by show w.heap.size ≤ w7.heap.size; omega) (.int .i64 1); clear hO6 hG6 hgl hgl0; have lr0 := lt_of_block xr6; have ls := lt_of_block xs6; have cs0 := box_cell xs7 0 _ rfl; have cs1 := box_cell xs7 1 _ rfl; have cr00 := box_cell xr7 0 _ rfl; have cr01 := box_cell xr7 1 _ rfl; have fr0 := box_free xr7 0; have fr1 := box_free xr7 1)
            have ol := hO7
            have xr0 := xr7
            have hz7 := hz6
            clear hO7 xr7 xs7 hc6
            have qs9 := store_two xr0 (.int .i64 p1) (.int .i64 q1)
            have e10 := box_cell qs9 0 _ rfl
            have e11 := box_cell qs9 1 _ rfl
            have HB9 := Lib.hid (Chg.to_below (by omega) ((hG7.setNewD (p := ⟨w.heap.size, 0, none⟩) (by show w.heap.size ≤ w.heap.size; omega) (.int .i64 p1)).setNewD (p := ⟨w.heap.size, 1, none⟩) (by show w.heap.size ≤ w.heap.size; omega) (.int .i64 q1)))
            have HO9 := Lib.hid (OwnI.fit (ol.chg (((Chg.refl (w.heap.size) (w.heap.size + 1) (w6.setCell ⟨w7.heap.size, 59, none⟩ (.int .i64 1))).set (i := 0) (v := .int .i64 p1) (Nat.le_refl _) (by omega)).set (i := 1) (v := .int .i64 q1) (Nat.le_refl _) (by omega)) (by omega)) (show w.heap.size ≤ w1.heap.size + 1 by omega))
            clear ol hz7 hG7
            exact bodyPost_ret (v := .tuple #[.agg #[.int .i64 p1, .int .i64 q1], .slice _ (61) _]) (by simp [results, Try.results11, go_sem, e10, e11]; first | done | exact ⟨rfl, rfl⟩) rfl ⟨p1, q1, _, 61, _, _, rfl, by omega, HO9.out, HB9.out⟩
        · have tv41E : (v4 == 1) = false := by rw [beq_eq_false_iff_ne]; exact tv41
          have ls := lt_of_block xs
          have cs0 := box_cell xs 0 _ rfl
          have cs1 := box_cell xs 1 _ rfl
          have lr0 := lt_of_block xr0
          have cr00 := box_cell xr0 0 _ rfl
          have cr01 := box_cell xr0 1 _ rfl
          have fr0 := box_free xr0 0
          have fr1 := box_free xr0 1
          have qs9 := store_two xr0 (.int .i64 p1) (.int .i64 q1)
          have e10 := box_cell qs9 0 _ rfl
          have e11 := box_cell qs9 1 _ rfl
          have HB9 := Lib.hid (Chg.to_below (by omega) ((hG4.setNewD (p := ⟨w.heap.size, 0, none⟩) (by show w.heap.size ≤ w.heap.size; omega) (.int .i64 p1)).setNewD (p := ⟨w.heap.size, 1, none⟩) (by show w.heap.size ≤ w.heap.size; omega) (.int .i64 q1)))
          have HO9 := Lib.hid (OwnI.fit (ol.chg (((Chg.refl (w.heap.size) (w.heap.size + 1) w4).set (i := 0) (v := .int .i64 p1) (Nat.le_refl _) (by omega)).set (i := 1) (v := .int .i64 q1) (Nat.le_refl _) (by omega)) (by omega)) (show w.heap.size ≤ w1.heap.size + 1 by omega))
          clear ol hc4 hG4
          go_wp2
          exact bodyPost_ret (v := .tuple #[.agg #[.int .i64 p1, .int .i64 q1], .slice _ (m) _]) (by simp [results, Try.results11, go_sem, e10, e11]; first | done | exact ⟨rfl, rfl⟩) rfl ⟨p1, q1, _, m, _, _, rfl, by omega, HO9.out, HB9.out⟩
end Go.Proofs.Ytgfihfmlofgopaa
