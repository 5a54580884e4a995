/- Drawn noise tables. -/
import Derived.Test.YtgeilnkglbcmeaaDrX
import Derived.Test.YtgeilnkglbcmeaaZq
namespace Go.Proofs.Ytgeilnkglbcmeaa
open Go.RowKit

/-- A drawn row of rows: each of q to 16 numbers; all in blocks from lo on and below hi. -/
structure DNt (w : World) (lo hi : Nat) (A : Option Addr) (n c q : Nat) : Prop where
  cells : ∃ ys, w.ownsRow lo 27 1 (.slice A n c) n ys ∧ ∀ j, j < n → ∃ (V : Option Addr) (m cv : Nat) (xs : List Int), ys[j]? = some (.slice V m cv) ∧ OwnI w lo hi V m cv xs ∧ q ≤ m ∧ m ≤ 16
  top : ∀ k, rowOf A = some k → k < hi
section
variable {w w' : World} {A : Option Addr} {n c lo hi q : Nat}
theorem DNt.nil_ {w : World} {lo hi : Nat} : DNt w lo hi none 0 0 q := ⟨⟨[], World.ownsRow_nil _ _ _ _, fun j hj => absurd hj (by omega)⟩, fun k hk => by cases hk⟩
theorem DNt.keep (h : DNt w lo hi A n c q) (hk : ∀ g, lo ≤ g → g < hi → g < w.heap.size → w'.heap[g]? = w.heap[g]?) : DNt w' lo hi A n c q := by
  obtain ⟨ys, h1, h2⟩ := h.cells
  refine ⟨⟨ys, row_keep h1 fun g hl hA hg => hk g hl (h.top g hA) hg, fun j hj => ?_⟩, h.top⟩
  obtain ⟨V, m, cv, xs, e, hv, hm⟩ := h2 j hj
  refine ⟨V, m, cv, xs, e, ⟨hv.own.keep fun g hA hl => ?_, hv.top, hv.small⟩, hm⟩
  have := hv.row g (by rw [hA]; rfl)
  exact hk g this.1 this.2 hl
theorem DNt.below (h : DNt w lo hi A n c q) (hb : Below w.heap.size w w') : DNt w' lo hi A n c q := h.keep fun g _ _ hg => hb.block g hg
theorem DNt.chg {lo' hi' : Nat} (h : DNt w lo hi A n c q) (hc : Chg lo' hi' w w') (hd : hi ≤ lo' ∨ hi' ≤ lo) : DNt w' lo hi A n c q := h.keep fun g h1 h2 hg => hc.block g hg (by omega)
theorem DNt.fit {lo' : Nat} (h : DNt w lo hi A n c q) (hl : lo' ≤ lo) : DNt w lo' w.heap.size A n c q := by
  obtain ⟨ys, h1, h2⟩ := h.cells
  refine ⟨⟨ys, row_mono h1 hl, fun j hj => ?_⟩, fun k hk => (row_ge h1 k hk).2⟩
  obtain ⟨V, m, cv, xs, e, hv, hm⟩ := h2 j hj
  exact ⟨V, m, cv, xs, e, hv.fit hl, hm⟩
theorem DNt.less {q' : Nat} (h : DNt w lo hi A n c q) (hq : q' ≤ q) : DNt w lo hi A n c q' := by
  obtain ⟨ys, h1, h2⟩ := h.cells
  refine ⟨⟨ys, h1, fun j hj => ?_⟩, h.top⟩
  obtain ⟨V, m, cv, xs, e, hv, hm, hm2⟩ := h2 j hj
  exact ⟨V, m, cv, xs, e, hv, by omega, hm2⟩
/-- One row more. -/
theorem DNt.snoc {A2 V : Option Addr} {c2 m cv : Nat} {xs : List Int} {ys : List Value} (ho : w.ownsRow lo 27 1 (.slice A n c) n ys) (h2 : ∀ j, j < n → ∃ (V : Option Addr) (m cv : Nat) (xs : List Int), ys[j]? = some (.slice V m cv) ∧ OwnI w lo w.heap.size V m cv xs ∧ q ≤ m ∧ m ≤ 16)
    (hv : OwnI w lo w.heap.size V m cv xs) (hq : q ≤ m) (hm : m ≤ 16) (hg : w.grownBy w' (rowOf A)) (hn : w'.ownsRow lo 27 1 (.slice A2 (n + 1) c2) (n + 1) (ys ++ [.slice V m cv])) : DNt w' lo w'.heap.size A2 (n + 1) c2 q := by
  have hl := ho.1
  have far : ∀ {V : Option Addr} {m cv : Nat} {xs : List Int}, OwnI w lo w.heap.size V m cv xs → OwnI w' lo w'.heap.size V m cv xs := fun {V m cv xs} hv => by
    refine OwnI.of_own (hv.own.far hg fun g hA e => ?_) hv.small
    exact row_ne2 hv.own ho (by decide) (by rw [hA]; rfl) e
  refine ⟨⟨_, hn, fun j hj => ?_⟩, fun k hk => (row_ge hn k hk).2⟩
  rcases Nat.lt_or_ge j n with h | h
  · obtain ⟨V, m, cv, xs, e0, hv, hm⟩ := h2 j h
    exact ⟨V, m, cv, xs, by rw [List.getElem?_append_left (by omega)]; exact e0, far hv, hm⟩
  · obtain rfl : j = n := by omega
    refine ⟨V, m, cv, xs, ?_, far hv, hq, hm⟩
    rw [List.getElem?_append_right (by omega), show j - ys.length = 0 by omega]; rfl
/-- A number stored into a block of numbers. -/
theorem DNt.setRow {gv i : Nat} {x : Int} (h : DNt w lo hi A n c q) (hne : rowOf A ≠ some gv) : DNt (w.setCell ⟨gv, i, none⟩ (.int .i64 x)) lo hi A n c q := by
  obtain ⟨ys, h1, h2⟩ := h.cells
  refine ⟨⟨ys, row_keep h1 fun g _ hA hg => Below.heap_setCell w ⟨gv, i, none⟩ _ g (fun e => hne (by rw [hA, e])), fun j hj => ?_⟩, h.top⟩
  obtain ⟨V, m, cv, xs, e, hv, hm⟩ := h2 j hj
  by_cases hV : rowOf V = some gv
  · have hV2 : V = some ⟨gv, 0, none⟩ := by
      rcases hv.own.2 with ⟨h0, _⟩ | ⟨g', cap, cur, hv', _⟩
      · injection h0 with h0; subst h0; cases hV
      · injection hv' with hv'; subst hv'; simp only [rowOf, Option.some.injEq] at hV; rw [hV]
    subst hV2
    exact ⟨_, m, cv, _, e, ⟨hv.own.set, hv.top, hv.small⟩, hm⟩
  · refine ⟨V, m, cv, xs, e, ⟨hv.own.keep fun g hA hl => Below.heap_setCell w ⟨gv, i, none⟩ _ g (fun e => hV (by rw [hA]; show some g = some gv; rw [e])), hv.top, hv.small⟩, hm⟩
/-- The k-th row. -/
theorem DNt.at_ {k : Nat} (h : DNt w lo hi A n c q) (hk : k < n) : ∃ (ga : Nat) (V : Option Addr) (m cv : Nat) (xs : List Int), A = some ⟨ga, 0, none⟩ ∧ lo ≤ ga ∧ ga < w.heap.size ∧ w.cell? ⟨ga, k, none⟩ = some (.slice V m cv) ∧ OwnI w lo hi V m cv xs ∧ q ≤ m ∧ m ≤ 16 := by
  obtain ⟨ys, h1, h2⟩ := h.cells
  obtain ⟨ga, rfl, hl, hs⟩ := row_head h1 (by omega)
  obtain ⟨V, m, cv, xs, e, hv, hm⟩ := h2 k hk
  exact ⟨ga, V, m, cv, xs, rfl, hl, hs, (World.ownsRow.cellAt h1 k (by omega)).trans e, hv, hm⟩
theorem DNt.rows (h : DNt w lo hi A n c q) : ∃ L : Nat → List Int, IntsS w A n L ∧ ∀ j, j < n → (L j).length ≤ 16 := by
  obtain ⟨ys, ho, h2⟩ := h.cells
  obtain ⟨zs, hzl, hz⟩ := list_ofR (α := List Int) (Q := fun j p => ∃ V cv, ys[j]? = some (.slice V p.length cv) ∧ Ints w V p.length p ∧ p.length ≤ 16) n (fun j hj => by
    obtain ⟨V, m, cv, xs, e, hv, _, hm⟩ := h2 j hj
    have hl := hv.ints.1
    subst hl
    exact ⟨xs, V, cv, e, hv.ints, hm⟩)
  refine ⟨fun j => zs[j]?.getD [], fun hn => ?_, fun j hj => ?_⟩
  · obtain ⟨g, rfl, _, _⟩ := row_head ho hn
    refine ⟨_, rfl, fun j hj => ?_⟩
    obtain ⟨p, e, V, cv, h1, h3, _⟩ := hz j hj
    rw [addr_add0]
    simp only [e, Option.getD_some]
    exact ⟨V, cv, (World.ownsRow.cellAt ho j (by omega)).trans h1, h3⟩
  · obtain ⟨p, e, V, cv, _, _, h3⟩ := hz j hj
    simp only [e, Option.getD_some]
    exact h3
end

set_option maxRecDepth 100000 in
set_option maxHeartbeats 4000000 in
theorem yUniform_any (d : Nat) (w : World) (hd : d ≤ 3) :
    Calls Try.prog 114 #[.int .i64 d] w fun e w' => ∃ A c, e = .returned (.agg #[.slice A (d + 1) c]) ∧ DNt w' w.heap.size w'.heap.size A (d + 1) c 16 ∧ Below w.heap.size w w' := by
  obtain ⟨i0, hi, hz0, hz1, hz2⟩ := info_parts Try.infoInt
  obtain ⟨i1, hj, hy0, hy1, hy2⟩ := info_parts Try.infoIntS
  obtain ⟨b0, x1, x2⟩ := box_two w #[.slice none 0 0] #[.slice none 0 0] 33 33
  have S := Lib.hid (show ((w.alloc (.cells #[.slice none 0 0] 33)).alloc (.cells #[.slice none 0 0] 33)).heap.size = w.heap.size + 1 + 1 by simp)
  go_enter Try.func114, Try.ntmps114
  go_wp2_with fail
  generalize (w.alloc (.cells #[.slice none 0 0] 33)).alloc (.cells #[.slice none 0 0] 33) = w1 at *
  go_loopw [4] (fun i wr => ∃ (k c : Nat) (A : Option Addr), k ≤ d + 1 ∧ i = .int .i64 k ∧ Hid (wr.heap[w.heap.size]? = some (.cells #[.slice none 0 0] 33 (0, 0))) ∧ Hid (wr.heap[w.heap.size + 1]? = some (.cells #[.slice A k c] 33 (0, 0))) ∧ DNt wr (w.heap.size + 1 + 1) wr.heap.size A k c 16 ∧ Below w.heap.size w wr) (fun i _ => d + 1 - (intOf i).toNat)
  case atStart => exact ⟨0, 0, none, by omega, rfl, Lib.hid x1, Lib.hid x2, DNt.nil_, b0⟩
  case round =>
    clear x1 x2 b0
    obtain ⟨k, c, A, hk, rfl, X1, X2, hD, hbw⟩ := hrel
    obtain ⟨wo, rfl⟩ : ∃ wo : World, wo = wr := ⟨_, rfl⟩
    have hzw := lt_of_block X2.out
    by_cases hkd : k ≤ d
    · rcases (show k = 0 ∨ k = 1 ∨ k = 2 ∨ k = 3 by omega) with rfl | rfl | rfl | rfl
      · have hdk : (0 : Int) ≤ (d : Int) := by omega
        have hdd : decide ((0 : Int) ≤ (d : Int)) = true := decide_eq_true (by omega)
        have HD := Lib.hid hD
        have HB := Lib.hid hbw
        clear hD hbw
        go_wp2_with (at_make; refine wpList_make_full _ rfl _ _ 27 rfl wo.heap.size 3 i0 _ 1 Try.underlying27 hi hz0 hz1 .i64 .i64 _ _ 16 rfl rfl rfl rfl (by rw [hz2]; omega) (by unfold maxLen; omega) (Nat.le_refl _) ?_; intro w6 hown hg)
        rw [map_replicate0] at hown
        have b6 : Below wo.heap.size wo w6 := (Below.refl _ _).grown hg (Nat.le_refl _) (by simp)
        have o6 : OwnI w6 wo.heap.size w6.heap.size (some ⟨wo.heap.size, 0, none⟩) 16 16 (List.replicate 16 0) := OwnI.of_own hown (by omega)
        have z6 : wo.heap.size < w6.heap.size := (o6.row _ rfl).2
        have D6 := Lib.hid (HD.out.below b6)
        have Y1 := Lib.hid (box_below X1.out b6)
        have Y2 := Lib.hid (box_below X2.out b6)
        have B6 := Lib.hid (HB.out.trans (b6.mono HB.out.size))
        clear HD X1 X2 HB b6 hg hown
        go_loopw [7] (fun i wq => ∃ (q : Nat) (xs : List Int), q ≤ 16 ∧ i = .int .i64 q ∧ OwnI wq wo.heap.size (wo.heap.size + 1) (some ⟨wo.heap.size, 0, none⟩) 16 16 xs ∧ Chg wo.heap.size (wo.heap.size + 1) w6 wq) (fun i _ => 16 - (intOf i).toNat)
        case atStart => exact ⟨0, _, by omega, rfl, ⟨o6.own, fun k hk => by (have : some wo.heap.size = some k := hk); injection this; omega, o6.small⟩, Chg.refl _ _ _⟩
        case round =>
          clear o6
          obtain ⟨q, xs, hq, rfl, hO, hC⟩ := hrel
          by_cases hq2 : q < 16
          · obtain ⟨gg, hge, _, hgl, hcg, hfg⟩ := hO.own.at_ (show q < 16 by omega)
            simp only [Option.some.injEq, Addr.mk.injEq, and_true] at hge
            subst hge
            have HO := Lib.hid hO
            have HC := Lib.hid hC
            clear hO hC
            go_wp2
            go_roundw
            case rel => exact ⟨q + 1, _, by omega, by go_num, ⟨HO.out.own.set, HO.out.top, HO.out.small⟩, HC.out.set (Nat.le_refl _) (by omega)⟩
            case measure => simp [intOf]; omega
          · obtain rfl : q = 16 := by omega
            have D7 := D6.out.chg hC (.inl (by omega))
            have Z1 := box_chg Y1.out hC (by omega)
            have Z2 := box_chg Y2.out hC (by omega)
            have hb7 : Below w.heap.size w wr := (hC.below B6.out (by omega) (by omega))
            have z7 := hC.size
            have e0 := box_cell Z2 0 _ rfl
            have f0 := box_free Z2 0
            have O7 : OwnI wr (w.heap.size + 1 + 1) wr.heap.size (some ⟨wo.heap.size, 0, none⟩) 16 16 xs := OwnI.fit hO (by omega)
            obtain ⟨ys, ho, hr⟩ := (D7.fit (Nat.le_refl _)).cells
            have HR := Lib.hid hr
            have hrow : ∀ j, rowOf A = some j → w.heap.size + 1 + 1 ≤ j ∧ j < wr.heap.size := fun j hj => row_ge ho j hj
            have HO7 := Lib.hid O7
            clear hr D6 D7 Y1 Y2 hO hC B6 O7
            go_wp2_with (at_builtin; refine wp_appG (cs := #[.slice (some ⟨wo.heap.size, 0, none⟩) 16 16]) rfl _ _ rfl Try.underlying22 hj hy0 hy1 hy2 rfl (by omega) (by omega) rfl (by simp [Value.oneCell']) (w.heap.size + 1 + 1) A 0 c ys rfl ho _ rfl (by simp) (by omega) (by omega) ?_; intro A8 c8 w8 own8 grow8 _; have D8 := Lib.hid (DNt.snoc ho HR.out HO7.out (Nat.le_refl _) (Nat.le_refl _) grow8 own8); have X8 := Lib.hid (box_app2 Z1 grow8 (fun e => by have := (hrow _ e).1; omega)); have y8 := box_app2 Z2 grow8 (fun e => by have := (hrow _ e).1; omega); have B8 := Lib.hid (below_write hb7 grow8 (by omega) (fun j hj => by have := (hrow j hj).1; omega)); have e8 := box_cell y8 0 _ rfl; have f8 := box_free y8 0; have z8 := grow8.size; clear hb7)
            have R2 := Lib.hid (box_set y8 0 (.slice A8 (0 + 1) c8))
            have R1 := Lib.hid ((Below.heap_setCell w8 ⟨w.heap.size + 1, 0, none⟩ (.slice A8 (0 + 1) c8) w.heap.size (by simp)).trans X8.out)
            have R3 := Lib.hid ((D8.out.chg ((Chg.refl (w.heap.size + 1) (w.heap.size + 1 + 1) w8).set (g := w.heap.size + 1) (i := 0) (v := .slice A8 (0 + 1) c8) (by omega) (by omega)) (.inr (by omega))).fit (Nat.le_refl _))
            have R4 := Lib.hid (B8.out.setCell (p := ⟨w.heap.size + 1, 0, none⟩) (by simp) (.slice A8 (0 + 1) c8))
            clear y8 e8 f8 ho own8 grow8 D8 X8 B8 Z1 Z2 e0 f0
            go_roundw
            case rel => exact ⟨1, c8, A8, by omega, by go_num, R1, R2, R3.out, R4.out⟩
            case measure => simp [intOf] <;> omega
      · have hdk : (1 : Int) ≤ (d : Int) := by omega
        have hdd : decide ((1 : Int) ≤ (d : Int)) = true := decide_eq_true (by omega)
        have HD := Lib.hid hD
        have HB := Lib.hid hbw
        clear hD hbw
        go_wp2_with (at_make; refine wpList_make_full _ rfl _ _ 27 rfl wo.heap.size 3 i0 _ 1 Try.underlying27 hi hz0 hz1 .i64 .i64 _ _ 16 rfl rfl rfl rfl (by rw [hz2]; omega) (by unfold maxLen; omega) (Nat.le_refl _) ?_; intro w6 hown hg)
        rw [map_replicate0] at hown
        have b6 : Below wo.heap.size wo w6 := (Below.refl _ _).grown hg (Nat.le_refl _) (by simp)
        have o6 : OwnI w6 wo.heap.size w6.heap.size (some ⟨wo.heap.size, 0, none⟩) 16 16 (List.replicate 16 0) := OwnI.of_own hown (by omega)
        have z6 : wo.heap.size < w6.heap.size := (o6.row _ rfl).2
        have D6 := Lib.hid (HD.out.below b6)
        have Y1 := Lib.hid (box_below X1.out b6)
        have Y2 := Lib.hid (box_below X2.out b6)
        have B6 := Lib.hid (HB.out.trans (b6.mono HB.out.size))
        clear HD X1 X2 HB b6 hg hown
        go_loopw [7] (fun i wq => ∃ (q : Nat) (xs : List Int), q ≤ 15 ∧ i = .int .i64 q ∧ OwnI wq wo.heap.size (wo.heap.size + 1) (some ⟨wo.heap.size, 0, none⟩) 16 16 xs ∧ Chg wo.heap.size (wo.heap.size + 1) w6 wq) (fun i _ => 15 - (intOf i).toNat)
        case atStart => exact ⟨0, _, by omega, rfl, ⟨o6.own, fun k hk => by (have : some wo.heap.size = some k := hk); injection this; omega, o6.small⟩, Chg.refl _ _ _⟩
        case round =>
          clear o6
          obtain ⟨q, xs, hq, rfl, hO, hC⟩ := hrel
          by_cases hq2 : q < 15
          · obtain ⟨gg, hge, _, hgl, hcg, hfg⟩ := hO.own.at_ (show q < 16 by omega)
            simp only [Option.some.injEq, Addr.mk.injEq, and_true] at hge
            subst hge
            have HO := Lib.hid hO
            have HC := Lib.hid hC
            clear hO hC
            go_wp2
            go_roundw
            case rel => exact ⟨q + 1, _, by omega, by go_num, ⟨HO.out.own.set, HO.out.top, HO.out.small⟩, HC.out.set (Nat.le_refl _) (by omega)⟩
            case measure => simp [intOf]; omega
          · obtain rfl : q = 15 := by omega
            have D7 := D6.out.chg hC (.inl (by omega))
            have Z1 := box_chg Y1.out hC (by omega)
            have Z2 := box_chg Y2.out hC (by omega)
            have hb7 : Below w.heap.size w wr := (hC.below B6.out (by omega) (by omega))
            have z7 := hC.size
            have e0 := box_cell Z2 0 _ rfl
            have f0 := box_free Z2 0
            have O7 : OwnI wr (w.heap.size + 1 + 1) wr.heap.size (some ⟨wo.heap.size, 0, none⟩) 16 16 xs := OwnI.fit hO (by omega)
            obtain ⟨ys, ho, hr⟩ := (D7.fit (Nat.le_refl _)).cells
            have HR := Lib.hid hr
            have hrow : ∀ j, rowOf A = some j → w.heap.size + 1 + 1 ≤ j ∧ j < wr.heap.size := fun j hj => row_ge ho j hj
            have HO7 := Lib.hid O7
            clear hr D6 D7 Y1 Y2 hO hC B6 O7
            go_wp2_with (at_builtin; refine wp_appG (cs := #[.slice (some ⟨wo.heap.size, 0, none⟩) 16 16]) rfl _ _ rfl Try.underlying22 hj hy0 hy1 hy2 rfl (by omega) (by omega) rfl (by simp [Value.oneCell']) (w.heap.size + 1 + 1) A 1 c ys rfl ho _ rfl (by simp) (by omega) (by omega) ?_; intro A8 c8 w8 own8 grow8 _; have D8 := Lib.hid (DNt.snoc ho HR.out HO7.out (Nat.le_refl _) (Nat.le_refl _) grow8 own8); have X8 := Lib.hid (box_app2 Z1 grow8 (fun e => by have := (hrow _ e).1; omega)); have y8 := box_app2 Z2 grow8 (fun e => by have := (hrow _ e).1; omega); have B8 := Lib.hid (below_write hb7 grow8 (by omega) (fun j hj => by have := (hrow j hj).1; omega)); have e8 := box_cell y8 0 _ rfl; have f8 := box_free y8 0; have z8 := grow8.size; clear hb7)
            have R2 := Lib.hid (box_set y8 0 (.slice A8 (1 + 1) c8))
            have R1 := Lib.hid ((Below.heap_setCell w8 ⟨w.heap.size + 1, 0, none⟩ (.slice A8 (1 + 1) c8) w.heap.size (by simp)).trans X8.out)
            have R3 := Lib.hid ((D8.out.chg ((Chg.refl (w.heap.size + 1) (w.heap.size + 1 + 1) w8).set (g := w.heap.size + 1) (i := 0) (v := .slice A8 (1 + 1) c8) (by omega) (by omega)) (.inr (by omega))).fit (Nat.le_refl _))
            have R4 := Lib.hid (B8.out.setCell (p := ⟨w.heap.size + 1, 0, none⟩) (by simp) (.slice A8 (1 + 1) c8))
            clear y8 e8 f8 ho own8 grow8 D8 X8 B8 Z1 Z2 e0 f0
            go_roundw
            case rel => exact ⟨2, c8, A8, by omega, by go_num, R1, R2, R3.out, R4.out⟩
            case measure => simp [intOf] <;> omega
      · have hdk : (2 : Int) ≤ (d : Int) := by omega
        have hdd : decide ((2 : Int) ≤ (d : Int)) = true := decide_eq_true (by omega)
        have HD := Lib.hid hD
        have HB := Lib.hid hbw
        clear hD hbw
        go_wp2_with (at_make; refine wpList_make_full _ rfl _ _ 27 rfl wo.heap.size 3 i0 _ 1 Try.underlying27 hi hz0 hz1 .i64 .i64 _ _ 16 rfl rfl rfl rfl (by rw [hz2]; omega) (by unfold maxLen; omega) (Nat.le_refl _) ?_; intro w6 hown hg)
        rw [map_replicate0] at hown
        have b6 : Below wo.heap.size wo w6 := (Below.refl _ _).grown hg (Nat.le_refl _) (by simp)
        have o6 : OwnI w6 wo.heap.size w6.heap.size (some ⟨wo.heap.size, 0, none⟩) 16 16 (List.replicate 16 0) := OwnI.of_own hown (by omega)
        have z6 : wo.heap.size < w6.heap.size := (o6.row _ rfl).2
        have D6 := Lib.hid (HD.out.below b6)
        have Y1 := Lib.hid (box_below X1.out b6)
        have Y2 := Lib.hid (box_below X2.out b6)
        have B6 := Lib.hid (HB.out.trans (b6.mono HB.out.size))
        clear HD X1 X2 HB b6 hg hown
        go_loopw [7] (fun i wq => ∃ (q : Nat) (xs : List Int), q ≤ 15 ∧ i = .int .i64 q ∧ OwnI wq wo.heap.size (wo.heap.size + 1) (some ⟨wo.heap.size, 0, none⟩) 16 16 xs ∧ Chg wo.heap.size (wo.heap.size + 1) w6 wq) (fun i _ => 15 - (intOf i).toNat)
        case atStart => exact ⟨0, _, by omega, rfl, ⟨o6.own, fun k hk => by (have : some wo.heap.size = some k := hk); injection this; omega, o6.small⟩, Chg.refl _ _ _⟩
        case round =>
          clear o6
          obtain ⟨q, xs, hq, rfl, hO, hC⟩ := hrel
          by_cases hq2 : q < 15
          · obtain ⟨gg, hge, _, hgl, hcg, hfg⟩ := hO.own.at_ (show q < 16 by omega)
            simp only [Option.some.injEq, Addr.mk.injEq, and_true] at hge
            subst hge
            have HO := Lib.hid hO
            have HC := Lib.hid hC
            clear hO hC
            go_wp2
            go_roundw
            case rel => exact ⟨q + 1, _, by omega, by go_num, ⟨HO.out.own.set, HO.out.top, HO.out.small⟩, HC.out.set (Nat.le_refl _) (by omega)⟩
            case measure => simp [intOf]; omega
          · obtain rfl : q = 15 := by omega
            have D7 := D6.out.chg hC (.inl (by omega))
            have Z1 := box_chg Y1.out hC (by omega)
            have Z2 := box_chg Y2.out hC (by omega)
            have hb7 : Below w.heap.size w wr := (hC.below B6.out (by omega) (by omega))
            have z7 := hC.size
            have e0 := box_cell Z2 0 _ rfl
            have f0 := box_free Z2 0
            have O7 : OwnI wr (w.heap.size + 1 + 1) wr.heap.size (some ⟨wo.heap.size, 0, none⟩) 16 16 xs := OwnI.fit hO (by omega)
            obtain ⟨ys, ho, hr⟩ := (D7.fit (Nat.le_refl _)).cells
            have HR := Lib.hid hr
            have hrow : ∀ j, rowOf A = some j → w.heap.size + 1 + 1 ≤ j ∧ j < wr.heap.size := fun j hj => row_ge ho j hj
            have HO7 := Lib.hid O7
            clear hr D6 D7 Y1 Y2 hO hC B6 O7
            go_wp2_with (at_builtin; refine wp_appG (cs := #[.slice (some ⟨wo.heap.size, 0, none⟩) 16 16]) rfl _ _ rfl Try.underlying22 hj hy0 hy1 hy2 rfl (by omega) (by omega) rfl (by simp [Value.oneCell']) (w.heap.size + 1 + 1) A 2 c ys rfl ho _ rfl (by simp) (by omega) (by omega) ?_; intro A8 c8 w8 own8 grow8 _; have D8 := Lib.hid (DNt.snoc ho HR.out HO7.out (Nat.le_refl _) (Nat.le_refl _) grow8 own8); have X8 := Lib.hid (box_app2 Z1 grow8 (fun e => by have := (hrow _ e).1; omega)); have y8 := box_app2 Z2 grow8 (fun e => by have := (hrow _ e).1; omega); have B8 := Lib.hid (below_write hb7 grow8 (by omega) (fun j hj => by have := (hrow j hj).1; omega)); have e8 := box_cell y8 0 _ rfl; have f8 := box_free y8 0; have z8 := grow8.size; clear hb7)
            have R2 := Lib.hid (box_set y8 0 (.slice A8 (2 + 1) c8))
            have R1 := Lib.hid ((Below.heap_setCell w8 ⟨w.heap.size + 1, 0, none⟩ (.slice A8 (2 + 1) c8) w.heap.size (by simp)).trans X8.out)
            have R3 := Lib.hid ((D8.out.chg ((Chg.refl (w.heap.size + 1) (w.heap.size + 1 + 1) w8).set (g := w.heap.size + 1) (i := 0) (v := .slice A8 (2 + 1) c8) (by omega) (by omega)) (.inr (by omega))).fit (Nat.le_refl _))
            have R4 := Lib.hid (B8.out.setCell (p := ⟨w.heap.size + 1, 0, none⟩) (by simp) (.slice A8 (2 + 1) c8))
            clear y8 e8 f8 ho own8 grow8 D8 X8 B8 Z1 Z2 e0 f0
            go_roundw
            case rel => exact ⟨3, c8, A8, by omega, by go_num, R1, R2, R3.out, R4.out⟩
            case measure => simp [intOf] <;> omega
      · have hdk : (3 : Int) ≤ (d : Int) := by omega
        have hdd : decide ((3 : Int) ≤ (d : Int)) = true := decide_eq_true (by omega)
        have HD := Lib.hid hD
        have HB := Lib.hid hbw
        clear hD hbw
        go_wp2_with (at_make; refine wpList_make_full _ rfl _ _ 27 rfl wo.heap.size 3 i0 _ 1 Try.underlying27 hi hz0 hz1 .i64 .i64 _ _ 16 rfl rfl rfl rfl (by rw [hz2]; omega) (by unfold maxLen; omega) (Nat.le_refl _) ?_; intro w6 hown hg)
        rw [map_replicate0] at hown
        have b6 : Below wo.heap.size wo w6 := (Below.refl _ _).grown hg (Nat.le_refl _) (by simp)
        have o6 : OwnI w6 wo.heap.size w6.heap.size (some ⟨wo.heap.size, 0, none⟩) 16 16 (List.replicate 16 0) := OwnI.of_own hown (by omega)
        have z6 : wo.heap.size < w6.heap.size := (o6.row _ rfl).2
        have D6 := Lib.hid (HD.out.below b6)
        have Y1 := Lib.hid (box_below X1.out b6)
        have Y2 := Lib.hid (box_below X2.out b6)
        have B6 := Lib.hid (HB.out.trans (b6.mono HB.out.size))
        clear HD X1 X2 HB b6 hg hown
        go_loopw [7] (fun i wq => ∃ (q : Nat) (xs : List Int), q ≤ 14 ∧ i = .int .i64 q ∧ OwnI wq wo.heap.size (wo.heap.size + 1) (some ⟨wo.heap.size, 0, none⟩) 16 16 xs ∧ Chg wo.heap.size (wo.heap.size + 1) w6 wq) (fun i _ => 14 - (intOf i).toNat)
        case atStart => exact ⟨0, _, by omega, rfl, ⟨o6.own, fun k hk => by (have : some wo.heap.size = some k := hk); injection this; omega, o6.small⟩, Chg.refl _ _ _⟩
        case round =>
          clear o6
          obtain ⟨q, xs, hq, rfl, hO, hC⟩ := hrel
          by_cases hq2 : q < 14
          · obtain ⟨gg, hge, _, hgl, hcg, hfg⟩ := hO.own.at_ (show q < 16 by omega)
            simp only [Option.some.injEq, Addr.mk.injEq, and_true] at hge
            subst hge
            have HO := Lib.hid hO
            have HC := Lib.hid hC
            clear hO hC
            go_wp2
            go_roundw
            case rel => exact ⟨q + 1, _, by omega, by go_num, ⟨HO.out.own.set, HO.out.top, HO.out.small⟩, HC.out.set (Nat.le_refl _) (by omega)⟩
            case measure => simp [intOf]; omega
          · obtain rfl : q = 14 := by omega
            have D7 := D6.out.chg hC (.inl (by omega))
            have Z1 := box_chg Y1.out hC (by omega)
            have Z2 := box_chg Y2.out hC (by omega)
            have hb7 : Below w.heap.size w wr := (hC.below B6.out (by omega) (by omega))
            have z7 := hC.size
            have e0 := box_cell Z2 0 _ rfl
            have f0 := box_free Z2 0
            have O7 : OwnI wr (w.heap.size + 1 + 1) wr.heap.size (some ⟨wo.heap.size, 0, none⟩) 16 16 xs := OwnI.fit hO (by omega)
            obtain ⟨ys, ho, hr⟩ := (D7.fit (Nat.le_refl _)).cells
            have HR := Lib.hid hr
            have hrow : ∀ j, rowOf A = some j → w.heap.size + 1 + 1 ≤ j ∧ j < wr.heap.size := fun j hj => row_ge ho j hj
            have HO7 := Lib.hid O7
            clear hr D6 D7 Y1 Y2 hO hC B6 O7
            go_wp2_with (at_builtin; refine wp_appG (cs := #[.slice (some ⟨wo.heap.size, 0, none⟩) 16 16]) rfl _ _ rfl Try.underlying22 hj hy0 hy1 hy2 rfl (by omega) (by omega) rfl (by simp [Value.oneCell']) (w.heap.size + 1 + 1) A 3 c ys rfl ho _ rfl (by simp) (by omega) (by omega) ?_; intro A8 c8 w8 own8 grow8 _; have D8 := Lib.hid (DNt.snoc ho HR.out HO7.out (Nat.le_refl _) (Nat.le_refl _) grow8 own8); have X8 := Lib.hid (box_app2 Z1 grow8 (fun e => by have := (hrow _ e).1; omega)); have y8 := box_app2 Z2 grow8 (fun e => by have := (hrow _ e).1; omega); have B8 := Lib.hid (below_write hb7 grow8 (by omega) (fun j hj => by have := (hrow j hj).1; omega)); have e8 := box_cell y8 0 _ rfl; have f8 := box_free y8 0; have z8 := grow8.size; clear hb7)
            have R2 := Lib.hid (box_set y8 0 (.slice A8 (3 + 1) c8))
            have R1 := Lib.hid ((Below.heap_setCell w8 ⟨w.heap.size + 1, 0, none⟩ (.slice A8 (3 + 1) c8) w.heap.size (by simp)).trans X8.out)
            have R3 := Lib.hid ((D8.out.chg ((Chg.refl (w.heap.size + 1) (w.heap.size + 1 + 1) w8).set (g := w.heap.size + 1) (i := 0) (v := .slice A8 (3 + 1) c8) (by omega) (by omega)) (.inr (by omega))).fit (Nat.le_refl _))
            have R4 := Lib.hid (B8.out.setCell (p := ⟨w.heap.size + 1, 0, none⟩) (by simp) (.slice A8 (3 + 1) c8))
            clear y8 e8 f8 ho own8 grow8 D8 X8 B8 Z1 Z2 e0 f0
            go_roundw
            case rel => exact ⟨4, c8, A8, by omega, by go_num, R1, R2, R3.out, R4.out⟩
            case measure => simp [intOf] <;> omega
    · obtain rfl : k = d + 1 := by omega
      have hdd : decide (((d + 1 : Nat) : Int) ≤ (d : Int)) = false := decide_eq_false (by omega)
      have e0 := box_cell X2.out 0 _ rfl
      have p0 := box_cell X1.out 0 _ rfl
      have f0 := box_free X1.out 0
      have l0 := lt_of_block X1.out
      have r0 := box_cell (box_set X1.out 0 (.slice A (d + 1) c)) 0 _ rfl
      have HD := Lib.hid ((hD.chg ((Chg.refl w.heap.size (w.heap.size + 1) wo).set (g := w.heap.size) (i := 0) (v := .slice A (d + 1) c) (by omega) (by omega)) (.inr (by omega))).fit (show w.heap.size ≤ _ by omega))
      have HB := Lib.hid (hbw.setCell (p := ⟨w.heap.size, 0, none⟩) (Nat.le_refl _) (.slice A (d + 1) c))
      clear hD hbw
      go_wp2
      refine bodyPost_ret (v := .agg #[.slice A (d + 1) c]) (by simp [results, Try.results114, go_sem, r0]) rfl ⟨A, c, rfl, HD.out, HB.out⟩
end Go.Proofs.Ytgeilnkglbcmeaa
