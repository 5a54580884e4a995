/- Rows of rows and noise tables in the laws' hands: their size, their turning, their comparing and marking. -/
import Derived.Test.YtgeilnkglbcmeaaTabG
namespace Go.Proofs.Ytgeilnkglbcmeaa
open Go.RowKit

set_option maxRecDepth 100000 in
set_option maxHeartbeats 400000 in
theorem szIntSS_any (A : Option Addr) (n c : Nat) (k : Int) (L : Nat → List Int) (w : World) (hx : IntsS w A n L) (hs : ∀ j, j < n → (L j).length ≤ 9223372036854775807) (hn : n ≤ 9223372036854775807) (h0 : 0 ≤ k) (h1 : k ≤ 1099511627776) :
    Calls Try.prog 49 #[.slice A n c, .int .i64 k] w fun e w' => (∃ r, e = .returned (.int .i64 r) ∧ -1 ≤ r ∧ r ≤ k ∧ (0 ≤ r → n + r ≤ k ∧ ∀ j, j < n → ((L j).length : Int) ≤ k)) ∧ Below w.heap.size w w' := by
  go_enter Try.func49, Try.ntmps49
  by_cases hlt : k - n < 0
  · go_wp2
    go_ret
    exact ⟨⟨-1, rfl, by omega, by omega, fun h => absurd h (by omega)⟩, Below.refl _ _⟩
  go_wp2
  go_loopw [1, 5] (fun a i wr => ∃ (j : Nat) (r : Int), j ≤ n ∧ i = .int .i64 j ∧ a = .int .i64 r ∧ 0 ≤ r ∧ r ≤ k - n ∧ Hid (∀ t, t < j → ((L t).length : Int) ≤ k) ∧ Below w.heap.size w wr) (fun _ i _ => n - (intOf i).toNat)
  case atStart => exact ⟨0, k - n, Nat.zero_le _, rfl, by go_num, by omega, by omega, Lib.hid fun t ht => absurd ht (by omega), Below.refl _ _⟩
  case round =>
    obtain ⟨j, r, hj, rfl, rfl, hr0, hr1, hall, hbw⟩ := hrel
    by_cases hjn : j < n
    · obtain ⟨ad, rfl, V, cc, hc, hv⟩ := (hx.below hbw).at_ hjn
      have hsj := hs j hjn
      have Q := Lib.hid (fun (x : Int) (hx : (x : Int) ≤ k) (e : ((L j).length : Int) ≤ x) => (show ∀ t, t < j + 1 → ((L t).length : Int) ≤ k from fun t ht => by
        rcases Nat.lt_or_ge t j with h | h
        · exact hall.out t h
        · obtain rfl : t = j := by omega
          omega))
      clear hx hs hall hv
      generalize (L j).length = m at *
      have F := szi_in m r hr0
      by_cases hneg : szi m r < 0
      · go_wp2_with (go_at_call 101; refine (szIntS_any _ m _ r _ hsj hr0 (by omega)).mono ?_; rintro e w2 ⟨rfl, rfl⟩)
        go_ret
        exact ⟨⟨-1, rfl, by omega, by omega, fun h => absurd h (by omega)⟩, hbw⟩
      · go_wp2_with (go_at_call 101; refine (szIntS_any _ m _ r _ hsj hr0 (by omega)).mono ?_; rintro e w2 ⟨rfl, rfl⟩)
        go_roundw
        case rel => exact ⟨j + 1, szi m r, by omega, by go_num, rfl, by omega, by omega, Lib.hid (Q.out r (by omega) (by have := F.2 (by omega); omega)), hbw⟩
        case measure => simp [intOf]; omega
    · obtain rfl : j = n := by omega
      go_wp2
      go_ret
      exact ⟨⟨r, rfl, by omega, by omega, fun _ => ⟨by omega, hall.out⟩⟩, hbw⟩

theorem row_one {w : World} {lo n c g k : Nat} {T : TypeId} {ys : List Value} (h : w.ownsRow lo T 1 (.slice (some ⟨g, 0, none⟩) n c) n ys) (hk : k < n) : (∃ u, w.cell? ⟨g, k, none⟩ = some u) ∧ w.frozen? ⟨g, k, none⟩ = false := by
  have hl := h.1
  refine ⟨⟨ys[k]'(by omega), ?_⟩, World.ownsRow.frozenAt h _⟩
  rw [World.ownsRow.cellAt h _ (by omega), List.getElem?_eq_getElem]

/-- One round of the turning of rows. -/
theorem rowsTo_step {wr w2 : World} {lo k n V2n c2 g : Nat} {V2 : Option Addr} {L : Nat → List Int} {ys : List Value} (hag : ∀ t, k ≤ t → t < n → ys[t]? = some (.slice none 0 0)) (ho : wr.ownsRow lo 27 1 (.slice (some ⟨g, 0, none⟩) n n) n ys) (hs : Sub wr lo wr.heap.size ys 1 0 (upTo L k) 0 n)
    (hlo : lo ≤ wr.heap.size) (hk : k < n) (hb : Below wr.heap.size wr w2) (hV : (L k).length = V2n) (hv : OwnI w2 wr.heap.size w2.heap.size V2 V2n c2 (L k)) :
    ∃ zs : List Value, (∀ t, k + 1 ≤ t → t < n → zs[t]? = some (.slice none 0 0)) ∧ (w2.setCell ⟨g, k, none⟩ (.slice V2 V2n c2)).ownsRow lo 27 1 (.slice (some ⟨g, 0, none⟩) n n) n zs ∧
      Sub (w2.setCell ⟨g, k, none⟩ (.slice V2 V2n c2)) lo w2.heap.size zs 1 0 (upTo L (k + 1)) 0 n := by
  subst hV
  obtain ⟨T1, T2⟩ := sets_step (l := L k) (c2 := c2) (V2 := V2) ho hs hk (hag k (Nat.le_refl _) hk) (grown_none hb _) (hv.own.mono hlo) hv.small (by
    cases e : rowOf V2 with
    | none => exact .inl rfl
    | some b => exact .inr (.inr ⟨b, rfl, (hv.own.row_ge b e).1⟩))
  rw [upTo_step] at T2
  exact ⟨_, fun t ht hn => by rw [List.getElem?_set_ne (by omega)]; exact hag t (by omega) hn, T1, T2⟩

set_option maxRecDepth 100000 in
set_option maxHeartbeats 800000 in
theorem toIntSS_law (A : Option Addr) (n c : Nat) (L : Nat → List Int) (w : World) (hx : IntsS w A n L) (hn : n ≤ 1099511627776) (hs : ∀ j, j < n → (L j).length ≤ 1099511627776) :
    Calls Try.prog 58 #[.slice A n c] w fun e w' => ∃ A' c', e = .returned (.slice A' n c') ∧ OwnII w' w.heap.size w'.heap.size A' n c' L ∧ Below w.heap.size w w' := by
  obtain ⟨i0, hi, hz0, hz1, hz2⟩ := info_parts Try.infoIntS
  go_enter Try.func58, Try.ntmps58
  go_wp2_with (at_make; refine wpList_make_full _ rfl _ _ 22 rfl w.heap.size 27 i0 _ 1 Try.underlying22 hi hz0 hz1 .i64 .i64 _ _ n rfl rfl rfl rfl (by rw [hz2]; omega) (by unfold maxLen; omega) (Nat.le_refl _) ?_; intro w1 hown hg)
  have hA : ∀ t, 0 ≤ t → t < n → (madeCells (Value.slice none 0 0).cells (n * 1)).toList[t]? = some (.slice none 0 0) := fun t _ ht => by have h := madeRows n t ht; simp only [Nat.mul_one, Nat.add_zero] at h ⊢; exact h
  have hS : Sub w1 w.heap.size w1.heap.size (madeCells (Value.slice none 0 0).cells (n * 1)).toList 1 0 (upTo L 0) 0 n := Sub.nils (fun j hj => madeRows n j hj) (fun j _ => by simp [upTo])
  generalize (madeCells (Value.slice none 0 0).cells (n * 1)).toList = y0 at *
  have hb1 : Below w.heap.size w w1 := (Below.refl _ _).grown hg (Nat.le_refl _) (by simp)
  have HA := Lib.hid hA
  clear hg hi hz0 hz1 hz2 hA
  go_loopw [4] (fun i wr => ∃ (k : Nat) (ys : List Value), k ≤ n ∧ i = .int .i64 k ∧ Hid (∀ t, k ≤ t → t < n → ys[t]? = some (.slice none 0 0)) ∧ wr.ownsRow w.heap.size 27 1 (.slice (some ⟨w.heap.size, 0, none⟩) n n) n ys ∧ Sub wr w.heap.size wr.heap.size ys 1 0 (upTo L k) 0 n ∧ Below w.heap.size w wr) (fun i _ => n - (intOf i).toNat)
  case atStart => exact ⟨0, _, Nat.zero_le _, rfl, HA, hown, hS, hb1⟩
  case round =>
    clear HA hown hb1 hS
    obtain ⟨k, ys, hk, rfl, hag, hown, hsub, hbw⟩ := hrel
    by_cases hlt : k < n
    · obtain ⟨ad, rfl, V, cc, hc, hv⟩ := (hx.below hbw).at_ hlt
      have hm := hs k hlt
      have R1 := Lib.hid (fun w2 V2 c2 (hb : Below wr.heap.size wr w2) => rowsTo_step (V2n := (L k).length) (c2 := c2) (V2 := V2) hag.out hown hsub hbw.size hlt hb rfl)
      have HO := Lib.hid hown
      have HB := Lib.hid hbw
      have HV := Lib.hid hv
      clear hx hag hown hbw hsub hv hs
      generalize (L k).length = m at *
      go_wp2_with (go_at_call 13; refine (toIntS_law V m cc (L k) _ HV.out hm).mono ?_; rintro e w2 ⟨V2, c2, rfl, o2, hb2⟩; obtain ⟨zs, r1, r2, r3⟩ := R1.out w2 V2 c2 hb2 o2; have R2 := Lib.hid r1; have R3 := Lib.hid r2; have R4 := Lib.hid r3; have R5 := Lib.hid (HB.out.trans (hb2.mono HB.out.size)); have R6 := Lib.hid (row_below HO.out hb2); obtain ⟨⟨u0, hu0⟩, hf0⟩ := row_one R6.out hlt; clear r1 r2 r3 o2 hb2)
      go_roundw
      case rel => exact ⟨k + 1, zs, by omega, by go_num, R2, R3.out, (R4.out.fit (Nat.le_refl _)), R5.out.setCell (Nat.le_refl _) _⟩
      case measure => simp [intOf]; omega
    · obtain rfl : k = n := by omega
      go_wp2
      go_ret
      refine ⟨_, _, rfl, ⟨⟨ys, hown, hsub.fn fun j _ hj => by simp [upTo, hj]⟩, fun g hg => (World.ownsRow.lt hown g (by simpa [rowOf, Value.ownBlock] using hg)).2, hn⟩, hbw⟩

set_option maxRecDepth 100000 in
set_option maxHeartbeats 800000 in
theorem toNoise_law (A : Option Addr) (n c : Nat) (L : Nat → List Int) (w : World) (hx : IntsS w A n L) (hn : n ≤ 1099511627776) (hs : ∀ j, j < n → (L j).length ≤ 1099511627776) :
    Calls Try.prog 10 #[.agg #[.slice A n c]] w fun e w' => ∃ V c', e = .returned (.agg #[.slice V n c']) ∧ OwnII w' w.heap.size w'.heap.size V n c' L ∧ Below w.heap.size w w' := by
  obtain ⟨b0, x1, x2, x3, S⟩ := box_three w #[.slice A n c] #[.slice none 0 0] #[.slice none 0 0] 24 33 33
  have HS := Lib.hid S
  clear S
  have HX := Lib.hid (hx.below b0)
  have c10 := box_cell x1 0 (.slice A n c) rfl
  have HH := Lib.hid hs
  clear hx hs
  go_enter Try.func10, Try.ntmps10
  go_wp2_with fail
  refine (toIntSS_law _ _ _ L _ HX.out hn HH.out).mono ?_
  rintro e w2 ⟨V, c', rfl, o2, hb2⟩
  clear c10
  generalize (((w.alloc (.cells #[.slice A n c] 24)).alloc (.cells #[.slice none 0 0] 33)).alloc (.cells #[.slice none 0 0] 33)) = w1 at *
  have y2 := box_below x2 hb2
  have y3 := box_below x3 hb2
  have hs2 := hb2.size
  have c30 := box_cell y3 0 (.slice none 0 0) rfl
  have c20 := box_cell y2 0 (.slice none 0 0) rfl
  have f30 := box_free y3 0
  have f20 := box_free y2 0
  have HO := Lib.hid o2
  have HB := Lib.hid (b0.trans (hb2.mono b0.size))
  clear x1 x2 x3 o2 hb2 y2 y3 b0
  go_wp2
  have g32 : w.heap.size + 1 + 1 < w1.heap.size := by rw [HS.out]; omega
  refine bodyPost_ret (v := .agg #[.slice V n c']) (by simp [results, Try.results10, go_sem, c20]) rfl ⟨V, c', rfl, ?_, (HB.out.setCell (by simp; omega) _).setCell (by simp) _⟩
  have hk := ((Chg.refl (w.heap.size + 1) (w.heap.size + 1 + 1 + 1) w2).set (g := w.heap.size + 1 + 1) (i := 0) (v := .slice V n c') (by omega) (by omega)).set (g := w.heap.size + 1) (i := 0) (v := .slice V n c') (by omega) (by omega)
  exact (HO.out.chg hk (.inr (by omega))).fit (by omega)

set_option maxRecDepth 100000 in
set_option maxHeartbeats 400000 in
theorem szNoise_law (A : Option Addr) (n c : Nat) (k : Int) (L : Nat → List Int) (w : World) (hx : IntsS w A n L) (hs : ∀ j, j < n → (L j).length ≤ 9223372036854775807) (hn : n ≤ 9223372036854775807) (h0 : 0 ≤ k) (h1 : k ≤ 1099511627776) :
    Calls Try.prog 6 #[.agg #[.slice A n c], .int .i64 k] w fun e w' => (∃ r, e = .returned (.int .i64 r) ∧ -1 ≤ r ∧ r ≤ k ∧ (0 ≤ r → n + r ≤ k ∧ ∀ j, j < n → ((L j).length : Int) ≤ k)) ∧ Below w.heap.size w w' := by
  have b0 := below_new w (.cells #[.slice A n c] 24)
  have x0 := box_new w #[.slice A n c] 24
  have c0 := box_cell x0 0 _ rfl
  have HX := Lib.hid (hx.below b0)
  have HH := Lib.hid hs
  clear hx hs x0
  go_enter Try.func6, Try.ntmps6
  go_wp2_with fail
  refine (szIntSS_any _ n _ k L _ HX.out HH.out hn h0 h1).mono ?_
  rintro e w2 ⟨⟨r, rfl, hr0, hr1, hr2⟩, b2⟩
  have B2 := Lib.hid (b0.trans (b2.mono b0.size))
  have R2 := Lib.hid hr2
  clear c0 b0 b2 hr2
  by_cases hr : r < 0
  · go_wp2
    go_ret
    exact ⟨⟨-1, rfl, by omega, by omega, fun h => absurd h (by omega)⟩, B2.out⟩
  · go_wp2
    go_ret
    exact ⟨⟨r, rfl, hr0, hr1, R2.out⟩, B2.out⟩

set_option maxRecDepth 100000 in
set_option maxHeartbeats 800000 in
theorem eqNoise_law (A A' : Option Addr) (n c c' : Nat) (L : Nat → List Int) (w : World) (hx : IntsS w A n L) (hy : IntsS w A' n L) (hn : n ≤ 1099511627776) (hL : ∀ j, j < n → (L j).length ≤ 1099511627776) :
    Calls Try.prog 16 #[.agg #[.slice A n c], .agg #[.slice A' n c']] w fun e w' => e = .returned (.bool true) ∧ Below w.heap.size w w' := by
  obtain ⟨b0, x1, x2⟩ := box_two w #[.slice A n c] #[.slice A' n c'] 33 33
  have c0 := box_cell x1 0 _ rfl
  have d0 := box_cell x2 0 _ rfl
  have HX := Lib.hid (hx.below b0)
  have HY := Lib.hid (hy.below b0)
  have HL := Lib.hid hL
  clear hx hy hL
  go_enter Try.func16, Try.ntmps16
  go_wp2_with fail
  refine (eqIntSS_law _ _ n _ _ L _ HX.out HY.out hn HL.out).mono ?_
  rintro e w2 ⟨rfl, b2⟩
  have B2 := Lib.hid (b0.trans (b2.mono b0.size))
  clear c0 d0 b0 b2 x1 x2
  go_wp2
  go_ret
  exact ⟨rfl, B2.out⟩

set_option maxRecDepth 100000 in
set_option maxHeartbeats 800000 in
theorem markNoise_law (A : Option Addr) (lo hi n c : Nat) (k0 : Int) (L : Nat → List Int) (w : World) (hx : OwnII w lo hi A n c L) (hn : n ≤ 1048576) (hL : ∀ j, j < n → (L j).length ≤ 1048576) (h0 : 0 ≤ k0) (h1 : k0 ≤ 2305843009213693952) :
    Calls Try.prog 19 #[.agg #[.slice A n c], .int .i64 k0] w fun e w' => (∃ r, e = .returned (.int .i64 r) ∧ k0 ≤ r ∧ r ≤ k0 + 1099511627776) ∧ Chg lo hi w w' := by
  have b0 := below_new w (.cells #[.slice A n c] 33)
  have x0 := box_new w #[.slice A n c] 33
  have c0 := box_cell x0 0 _ rfl
  have HX := Lib.hid (hx.below b0)
  have HL := Lib.hid hL
  have hb := sumLen_le hL n (Nat.le_refl _)
  clear hx hL x0
  go_enter Try.func19, Try.ntmps19
  go_wp2_with fail
  refine (markIntSS_law _ lo hi n _ k0 L _ HX.out hn HL.out h0 h1).mono ?_
  rintro e w2 ⟨rfl, _, g2⟩
  have G2 := Lib.hid ((Chg.of_below b0).trans g2)
  clear c0 b0 g2
  go_wp2
  go_ret
  exact ⟨⟨k0 + sumLen L n, rfl, by omega, by omega⟩, G2.out⟩
end Go.Proofs.Ytgeilnkglbcmeaa
