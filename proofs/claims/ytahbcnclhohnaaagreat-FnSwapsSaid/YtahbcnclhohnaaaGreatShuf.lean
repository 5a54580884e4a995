/- ShuffleWith, of the reference and of the program. -/
import Derived.Test.YtahbcnclhohnaaaGreatZn
namespace Go.Proofs.YtahbcnclhohnaaaGreat
open Go.RowKit

/-- Element k and element i exchanged. -/
def swapL (l : List Int) (k i : Nat) : List Int := (l.set k (l[i]?.getD 0)).set i (l[k]?.getD 0)
theorem swapL_len (l : List Int) (k i : Nat) : (swapL l k i).length = l.length := by simp [swapL]
/-- The shuffle's rounds from k down. -/
def shufT (s : Int) : Nat → List Int → Int → Option (List Int × Int)
  | 0, l, a => some (l, a)
  | k + 1, l, a => match belowM s (((k + 2 : Nat)) : Int) a with
    | none => none
    | some (i, a') => shufT s k (swapL l (k + 1) i.toNat) a'
theorem shufT_none {s a : Int} {k : Nat} {l : List Int} (h : belowM s (((k + 2 : Nat)) : Int) a = none) : shufT s (k + 1) l a = none := by simp only [shufT, h]
theorem shufT_some {s a i a' : Int} {k : Nat} {l : List Int} (h : belowM s (((k + 2 : Nat)) : Int) a = some (i, a')) : shufT s (k + 1) l a = shufT s k (swapL l (k + 1) i.toNat) a' := by simp only [shufT, h]
/-- 0, 1, .., n - 1. -/
def iota (n : Nat) : List Int := tabl n fun i => (i : Int)
/-- ShuffleWith's answer. -/
def shufR (s a n : Int) : Option (List Int × Int) := if streamB s a = true ∧ inR n 0 60 = true then shufT s (n.toNat - 1) (iota n.toNat) a else none
theorem shufR_1 {s a n : Int} (h : streamB s a = false) : shufR s a n = none := by unfold shufR; rw [if_neg (by simp [h])]
theorem shufR_2 {s a n : Int} (h : inR n 0 60 = false) : shufR s a n = none := by unfold shufR; rw [if_neg (by simp [h])]
theorem shufR_3 {s a n : Int} (h1 : streamB s a = true) (h : inR n 0 60 = true) : shufR s a n = shufT s (n.toNat - 1) (iota n.toNat) a := by unfold shufR; rw [if_pos ⟨h1, h⟩]
theorem OwnI.set {w : World} {lo hi g n c k : Nat} {xs : List Int} {x : Int} (h : OwnI w lo hi (some ⟨g, 0, none⟩) n c xs) : OwnI (w.setCell ⟨g, k, none⟩ (.int .i64 x)) lo hi (some ⟨g, 0, none⟩) n c (xs.set k x) := ⟨h.own.set, h.top, h.small⟩
theorem OwnI.drewN {w : World} {lo hi : Nat} {A : Option Addr} {n c : Nat} {xs : List Int} (h : OwnI w lo hi A n c xs) (q : Nat) : OwnI (w.drewN q) lo hi A n c xs := ⟨h.own, h.top, h.small⟩

set_option maxRecDepth 100000 in
set_option maxHeartbeats 4000000 in
theorem implShuffleWith_law (s a n : Int) (w : World) :
    Calls Tryz.prog 25 #[.agg #[.int .i64 s, .int .i64 a], .int .i64 n] w fun e w' => ∃ A c, e = .returned (.tuple #[.slice A (oL (shufR s a n)).length c, .agg #[.int .i64 (oS s (shufR s a n)), .int .i64 (oA (shufR s a n))], .bool (oB (shufR s a n))]) ∧ OwnI w' w.heap.size w'.heap.size A (oL (shufR s a n)).length c (oL (shufR s a n)) ∧ Below w.heap.size w w' := by
  obtain ⟨b0, x2, x5⟩ := box_two w #[.int .i64 s, .int .i64 a] #[.int .i64 0, .int .i64 0] 61 61
  go_enter Tryz.func25, Tryz.ntmps25
  go_wp2_with fail
  generalize (w.alloc (.cells #[.int .i64 s, .int .i64 a] 61)).alloc (.cells #[.int .i64 0, .int .i64 0] 61) = w0 at *
  refine (implIsStream_any _ _ _).mono ?_
  rintro e w1 ⟨rfl, b1⟩
  replace x2 := box_below x2 b1
  replace x5 := box_below x5 b1
  replace b1 := b0.trans (b1.mono b0.size)
  clear b0
  have c0 := box_cell x2 0 _ rfl
  have c1 := box_cell x2 1 _ rfl
  have d0 := box_cell x5 0 _ rfl
  have d1 := box_cell x5 1 _ rfl
  have f0 := box_free x5 0
  have f1 := box_free x5 1
  have h5 := lt_of_block x5
  have hs1 := b1.size
  cases hB : streamB s a
  · have R := Lib.hid (shufR_1 (n := n) hB)
    clear hB
    have y5 := store_two x5 (.int .i64 0) (.int .i64 0)
    have e0 := box_cell y5 0 _ rfl
    have e1 := box_cell y5 1 _ rfl
    go_wp2
    refine bodyPost_ret (v := .tuple #[.slice none 0 0, .agg #[.int .i64 0, .int .i64 0], .bool false]) (by simp [results, Tryz.results25, go_sem, e0, e1]) rfl ⟨none, 0, slip_no R.out, by rw [R.out]; exact OwnI.of_own Own.nil_ (by simp [oL]), below_two b1 (by omega)⟩
  · by_cases hn : 0 ≤ n ∧ n ≤ 60
    · obtain ⟨m, rfl⟩ := Int.eq_ofNat_of_zero_le hn.1
      have hN : inR (m : Int) 0 60 = true := inR_yes hn.1 hn.2
      have R0 := Lib.hid (shufR_3 hB hN)
      have ha := streamB_of hB
      have hm : m ≤ 60 := by omega
      clear hB hN hn
      simp only [Int.toNat_natCast] at R0
      have TL := Lib.hid (tabl_len m fun i => (i : Int))
      have TA : Hid (∀ k, k < m → (iota m)[k]?.getD 0 = (k : Int)) := Lib.hid fun k h => tabl_at h
      generalize hT : iota m = T at *
      replace TL : Hid (T.length = m) := by rw [← hT]; exact TL
      clear hT
      obtain ⟨i0, hi, hz0, hz1, hz2⟩ := info_parts Tryz.infoInt
      go_wp2_with (at_make; refine wpList_make_full _ rfl _ _ 26 rfl w1.heap.size 3 i0 _ 1 Tryz.underlying26 hi hz0 hz1 .i64 .i64 _ _ m rfl rfl rfl rfl (by rw [hz2]; omega) (by unfold maxLen; omega) (Nat.le_refl _) ?_; intro w2 hown hg)
      rw [map_replicate0] at hown
      have hO : OwnI w2 w1.heap.size w2.heap.size (some ⟨w1.heap.size, 0, none⟩) m m (List.replicate m 0) := OwnI.of_own hown (by omega)
      replace hO : OwnI w2 w1.heap.size (w1.heap.size + 1) (some ⟨w1.heap.size, 0, none⟩) m m (List.replicate m 0) := ⟨hO.own, fun k hk => by simp [rowOf] at hk; omega, hO.small⟩
      have b12 : Below w1.heap.size w1 w2 := (Below.refl _ _).grown hg (Nat.le_refl _) (by simp)
      have y2 : StrAt w2 w.heap.size s a := box_below x2 b12
      replace x5 := box_below x5 b12
      have b2 := b1.trans (b12.mono hs1)
      clear hown hg hi hz0 hz1 hz2 b12 x2 b1 c0 c1 d0 d1 f0 f1
      go_loopw [30] (fun i wr => ∃ (k : Nat) (ys : List Int), k ≤ m ∧ i = .int .i64 k ∧ Agree T ys m k ∧ OwnI wr w1.heap.size (w1.heap.size + 1) (some ⟨w1.heap.size, 0, none⟩) m m ys ∧ StrAt wr w.heap.size s a ∧ wr.heap[w.heap.size + 1]? = some (.cells #[.int .i64 0, .int .i64 0] 61 (0, 0)) ∧ Below w.heap.size w wr) (fun i _ => m - (intOf i).toNat)
      case atStart => exact ⟨0, _, Nat.zero_le _, rfl, Agree.start _ _, hO, y2, x5, b2⟩
      case round =>
        clear hO y2 x5 b2
        obtain ⟨k, ys, hk, rfl, hag, hown, hs, x5, hbw⟩ := hrel
        have hsz := hbw.size
        by_cases hlt : k < m
        · obtain ⟨gg, hge, _, hgl, hcg, hfg⟩ := hown.own.at_ hlt
          simp only [Option.some.injEq, Addr.mk.injEq, and_true] at hge
          subst hge
          have R1' := hag.step TL.out hlt
          rw [TA.out k hlt] at R1'
          have HR1 := Lib.hid R1'
          have HR2 := Lib.hid (hown.set (k := k) (x := (k : Int)))
          have HR3 := Lib.hid (hs.far (p := ⟨w1.heap.size, k, none⟩) (by simp; omega) (.int .i64 (k : Int)))
          have HR4 := Lib.hid (box_far x5 (p := ⟨w1.heap.size, k, none⟩) (by simp; omega) (.int .i64 (k : Int)))
          have HR5 := Lib.hid (hbw.setCell (p := ⟨w1.heap.size, k, none⟩) (by simp; omega) (.int .i64 (k : Int)))
          clear R1' hag hown hs x5 hbw hgl
          go_wp2
          go_roundw
          case rel => exact ⟨k + 1, _, by omega, by go_num, HR1.out, HR2.out, HR3.out, HR4.out, HR5.out⟩
          case measure => simp [intOf]; omega
        · have TE := hag.fin TL.out (by omega)
          subst TE
          clear hag TA
          have hkd : decide ((k : Int) < m) = false := decide_eq_false (by omega)
          go_wp2
          clear hkd
          go_loopw [9] (fun i w3 => ∃ (k : Nat) (l : List Int) (b v : Int), k ≤ m - 1 ∧ i = .int .i64 v ∧ Hid (v = k ∨ (v = -1 ∧ k = 0)) ∧ Hid (shufR s a m = shufT s k l b) ∧ OwnI w3 w1.heap.size (w1.heap.size + 1) (some ⟨w1.heap.size, 0, none⟩) m m l ∧ StrAt w3 w.heap.size s b ∧ 0 ≤ b ∧ b ≤ 1000000 ∧ w3.heap[w.heap.size + 1]? = some (.cells #[.int .i64 0, .int .i64 0] 61 (0, 0)) ∧ Below w.heap.size w w3) (fun i _ => (intOf i).toNat)
          case atStart =>
            exact ⟨m - 1, ys, a, (m : Int) - 1, Nat.le_refl _, rfl, Lib.hid (by omega), R0, hown, hs, ha.1, ha.2, x5, hbw⟩
          case round =>
            clear hown hs x5 hbw R0 TL
            obtain ⟨k, l, b, v, hk, rfl, hki, hR, hown, hs, hb0, hb1, x5, hbw⟩ := hrel
            have hsz := hbw.size
            rcases Nat.eq_zero_or_pos k with hk0 | hk0
            · subst hk0
              have R : Hid (shufR s a m = some (l, b)) := hR
              have hv : v < 1 := by have := hki.out; omega
              have c0 := box_cell hs 0 _ rfl
              have c1 := box_cell hs 1 _ rfl
              have d0 := box_cell x5 0 _ rfl
              have d1 := box_cell x5 1 _ rfl
              have f0 := box_free x5 0
              have f1 := box_free x5 1
              have y5 := store_two x5 (.int .i64 s) (.int .i64 b)
              have e0 := box_cell y5 0 _ rfl
              have e1 := box_cell y5 1 _ rfl
              have HO := Lib.hid (OwnI.fit (hown.chg (((Chg.refl (w.heap.size + 1) (w.heap.size + 2) wr).set (i := 0) (v := .int .i64 s) (Nat.le_refl _) (by omega)).set (i := 1) (v := .int .i64 b) (Nat.le_refl _) (by omega)) (.inr (by omega))) hs1)
              have HL := Lib.hid hown.own.len.symm
              clear hown hki hR
              go_wp2
              go_region
              all_goals (try go_wp2)
              all_goals refine bodyPost_ret (v := .tuple #[.slice (some ⟨w1.heap.size, 0, none⟩) m m, .agg #[.int .i64 s, .int .i64 b], .bool true]) (by simp [results, Tryz.results25, go_sem, e0, e1]) rfl ⟨_, m, slip_yes R.out HL.out, ?_, (below_two hbw (by omega)).drew⟩
              all_goals (rw [R.out]; simp only [oL]; rw [← HL.out]; exact HO.out.drew)
            · obtain rfl : v = k := by have := hki.out; omega
              clear hki
              obtain ⟨k, rfl⟩ : ∃ j, k = j + 1 := ⟨k - 1, by omega⟩
              go_wp2_with fail
              refine (below_any w.heap.size s b (((k + 2 : Nat)) : Int) _ hs hb0 hb1 (by omega) (by omega)).mono ?_
              rintro e w4 ⟨hyes, hno, hc⟩
              have hsz4 := hc.size
              have x54 := box_chg x5 hc (.inr (by omega))
              have hO4 := hown.chg hc (.inr (by omega))
              have hb4 := hc.below hbw (Nat.le_refl _) hsz
              clear hs hc x5 hown hbw
              have x5 := x54
              clear x54
              have d0 := box_cell x5 0 _ rfl
              have d1 := box_cell x5 1 _ rfl
              have f0 := box_free x5 0
              have f1 := box_free x5 1
              cases hM : belowM s (((k + 2 : Nat)) : Int) b with
              | none =>
                obtain ⟨z, b2, rfl, hs4⟩ := hno hM
                have R := Lib.hid (hR.out.trans (shufT_none hM))
                have y5 := store_two x5 (.int .i64 0) (.int .i64 0)
                have e0 := box_cell y5 0 _ rfl
                have e1 := box_cell y5 1 _ rfl
                clear hyes hno hM hR
                go_wp2
                refine bodyPost_ret (v := .tuple #[.slice none 0 0, .agg #[.int .i64 0, .int .i64 0], .bool false]) (by simp [results, Tryz.results25, go_sem, e0, e1]) rfl ⟨none, 0, slip_no R.out, by rw [R.out]; exact OwnI.of_own Own.nil_ (by simp [oL]), below_two hb4 (by omega)⟩
              | some p =>
                obtain ⟨v, b2⟩ := p
                obtain ⟨rfl, hs4⟩ := hyes v b2 hM
                have hv := belowM_bd hM hb0 hb1
                have R := Lib.hid (hR.out.trans (shufT_some hM))
                clear hyes hno hM hR d0 d1 f0 f1
                obtain ⟨j, rfl⟩ := Int.eq_ofNat_of_zero_le hv.1
                simp only [Int.toNat_natCast] at R
                have hj : j < k + 2 := by omega
                obtain ⟨g1, hge1, _, hgl, hcg1, hfg1⟩ := hO4.own.at_ (show k + 1 < m by omega)
                obtain ⟨g2, hge2, _, _, hcg2, hfg2⟩ := hO4.own.at_ (show j < m by omega)
                simp only [Option.some.injEq, Addr.mk.injEq, and_true] at hge1 hge2
                subst hge1 hge2
                obtain ⟨x, hx⟩ : ∃ x, l[k + 1]?.getD 0 = x := ⟨_, rfl⟩
                obtain ⟨y, hy⟩ : ∃ y, l[j]?.getD 0 = y := ⟨_, rfl⟩
                rw [hx] at hcg1
                rw [hy] at hcg2
                have E := Lib.hid (show swapL l (k + 1) j = (l.set (k + 1) y).set j x by rw [swapL, hx, hy])
                clear hx hy
                go_wp2
                go_quiet (fail)
                have HR2 := Lib.hid (((hO4.drewN nq).set (k := k + 1) (x := y)).set (k := j) (x := x))
                have HR3 := Lib.hid (((show StrAt (w4.drewN nq) w.heap.size s b2 from hs4).far (p := ⟨w1.heap.size, k + 1, none⟩) (by simp; omega) (.int .i64 y)).far (p := ⟨w1.heap.size, j, none⟩) (by simp; omega) (.int .i64 x))
                have HR4 := Lib.hid (box_far (box_far (show (w4.drewN nq).heap[w.heap.size + 1]? = _ from x5) (p := ⟨w1.heap.size, k + 1, none⟩) (by simp; omega) (.int .i64 y)) (p := ⟨w1.heap.size, j, none⟩) (by simp; omega) (.int .i64 x))
                have HR5 := Lib.hid (((below_drewN hb4 nq).setCell (p := ⟨w1.heap.size, k + 1, none⟩) (by simp; omega) (.int .i64 y)).setCell (p := ⟨w1.heap.size, j, none⟩) (by simp; omega) (.int .i64 x))
                rw [← E.out] at HR2
                obtain ⟨g3, hge3, _, _, hcg3, hfg3⟩ := ((hO4.drewN nq).set (k := k + 1) (x := y)).own.at_ (show j < m by omega)
                simp only [Option.some.injEq, Addr.mk.injEq, and_true] at hge3
                subst hge3
                clear hO4 hs4 x5 hb4 hgl
                go_wp2
                go_roundw
                case rel => exact ⟨k, _, b2, _, by omega, rfl, Lib.hid (by omega), R, HR2.out, HR3.out, hv.2.2.1, hv.2.2.2, HR4.out, HR5.out⟩
                case measure => simp [intOf]
    · have hN : inR n 0 60 = false := inR_no (by omega)
      have R := Lib.hid (shufR_2 (s := s) (a := a) hN)
      have y5 := store_two x5 (.int .i64 0) (.int .i64 0)
      have e0 := box_cell y5 0 _ rfl
      have e1 := box_cell y5 1 _ rfl
      clear hB hN
      by_cases h1 : n < 0
      · go_wp2
        refine bodyPost_ret (v := .tuple #[.slice none 0 0, .agg #[.int .i64 0, .int .i64 0], .bool false]) (by simp [results, Tryz.results25, go_sem, e0, e1]) rfl ⟨none, 0, slip_no R.out, by rw [R.out]; exact OwnI.of_own Own.nil_ (by simp [oL]), below_two b1 (by omega)⟩
      · have h2 : 60 < n := by omega
        go_wp2
        refine bodyPost_ret (v := .tuple #[.slice none 0 0, .agg #[.int .i64 0, .int .i64 0], .bool false]) (by simp [results, Tryz.results25, go_sem, e0, e1]) rfl ⟨none, 0, slip_no R.out, by rw [R.out]; exact OwnI.of_own Own.nil_ (by simp [oL]), below_two b1 (by omega)⟩

theorem Chg.setNew {lo hi : Nat} {a b : World} (h : Chg lo hi a b) {p : Addr} (hp : a.heap.size ≤ p.block) (v : Value) : Chg lo hi a (b.setCell p v) :=
  ⟨h.os, h.tape, h.output, by simpa [World.setCell] using h.size, fun k hk ho => (Below.heap_setCell b p v k (by omega)).trans (h.block k hk ho)⟩
theorem Chg.grown {lo hi : Nat} {a b c : World} {A : Option Addr} (h : Chg lo hi a b) (hg : b.grownBy c (rowOf A)) (hr : ∀ k, rowOf A = some k → a.heap.size ≤ k) : Chg lo hi a c :=
  ⟨hg.os.trans h.os, hg.tape.trans h.tape, hg.output.trans h.output, Nat.le_trans h.size hg.size, fun k hk ho => (hg.block k (Nat.lt_of_lt_of_le hk h.size) (fun e => by have := hr k e.symm; omega)).trans (h.block k hk ho)⟩
theorem box_grown {w w' : World} {A : Option Addr} {g : Nat} {o : Obj} (h : w.heap[g]? = some o) (hg : w.grownBy w' (rowOf A)) (hr : ∀ k, rowOf A = some k → g < k) : w'.heap[g]? = some o :=
  (hg.block g (lt_of_block h) (fun e => by have := hr g e.symm; omega)).trans h

set_option maxRecDepth 100000 in
set_option maxHeartbeats 4000000 in
theorem kshuffle_any (g : Nat) (s a : Int) (m : Nat) (w : World) (h : RdrAt w g s a true) (h0 : 0 ≤ a) (h1 : a ≤ 1000000) (hm : m ≤ 60) :
    Calls Tryz.prog 33 #[.pointer (some ⟨g, 0, none⟩), .int .i64 m] w fun e w' => ∃ A c l b ok, e = .returned (.slice A m c) ∧ OwnI w' w.heap.size w'.heap.size A m c l ∧ RdrAt w' g s b ok ∧
      ((ok = true ∧ shufT s (m - 1) (iota m) a = some (l, b)) ∨ (ok = false ∧ shufT s (m - 1) (iota m) a = none)) ∧ Chg g (g + 1) w w' := by
  have hgl := h.lt
  obtain ⟨RR, hRR⟩ : ∃ RR, shufT s (m - 1) (iota m) a = RR := ⟨_, rfl⟩
  rw [hRR]
  have R0 := Lib.hid hRR.symm
  clear hRR
  go_enter Tryz.func33, Tryz.ntmps33
  go_wp2
  go_loopw [5, 6] (fun v i wr => ∃ (k : Nat) (A : Option Addr) (c : Nat), k ≤ m ∧ i = .int .i64 k ∧ v = .slice A k c ∧ Own wr w.heap.size A k c (tabl k fun i => (i : Int)) ∧ Below w.heap.size w wr) (fun _ i _ => m - (intOf i).toNat)
  case atStart => exact ⟨0, none, 0, Nat.zero_le _, rfl, rfl, Own.nil_, Below.refl _ _⟩
  case round =>
    obtain ⟨k, A, c, hk, rfl, rfl, hown, hbw⟩ := hrel
    have hsz := hbw.size
    by_cases hlt : k < m
    · have E := Lib.hid (tabl_succ k fun i => (i : Int))
      go_wp2_with (at_builtin; refine wp_app1 rfl _ _ rfl w.heap.size A k c _ rfl hown _ rfl rfl (by omega) hsz ?_; intro A2 c2 w2 hown2 hg2 _)
      have hb2 := below_write hbw hg2 hsz (fun k hk => (hown.row_ge k hk).1)
      rw [← E.out] at hown2
      clear hown hbw hg2
      go_wp2
      go_roundw
      case rel => exact ⟨k + 1, A2, c2, by omega, by go_num, rfl, hown2, hb2⟩
      case measure => simp [intOf]; omega
    · obtain rfl : m = k := by omega
      have hown' : Own wr w.heap.size A m c (iota m) := hown
      clear hown
      have hr := h.below hbw
      have hcg : Chg g (g + 1) w wr := Chg.of_below hbw
      have hkd : decide ((m : Int) < m) = false := decide_eq_false (by omega)
      go_wp2
      clear hkd
      go_loopw [7] (fun i w3 => ∃ (k : Nat) (l : List Int) (b v : Int) (ok : Bool), k ≤ m - 1 ∧ i = .int .i64 v ∧ Hid (v = k ∨ (v = -1 ∧ k = 0)) ∧ OwnI w3 w.heap.size w3.heap.size A m c l ∧ RdrAt w3 g s b ok ∧ 0 ≤ b ∧ b ≤ 1000000 ∧ Hid ((ok = true ∧ RR = shufT s k l b) ∨ (ok = false ∧ RR = none)) ∧ Chg g (g + 1) w w3) (fun i _ => (intOf i).toNat)
      case atStart => exact ⟨m - 1, iota m, a, (m : Int) - 1, true, Nat.le_refl _, rfl, Lib.hid (by omega), OwnI.of_own hown' (by omega), hr, h0, h1, Lib.hid (.inl ⟨rfl, R0.out⟩), hcg⟩
      case round =>
        clear hown' hr hcg hbw R0 hsz h
        obtain ⟨k, l, b, v, ok, hk, rfl, hki, hown, hr, hb0, hb1, hst, hcg⟩ := hrel
        have hsz := hcg.size
        rcases Nat.eq_zero_or_pos k with hk0 | hk0
        · subst hk0
          have hv : v < 1 := by have := hki.out; omega
          clear hki
          go_wp2
          go_ret
          refine ⟨A, c, l, b, ok, rfl, hown, hr, ?_, hcg⟩
          rcases hst.out with ⟨h1, h2⟩ | ⟨h1, h2⟩
          · exact .inl ⟨h1, h2⟩
          · exact .inr ⟨h1, h2⟩
        · obtain rfl : v = k := by have := hki.out; omega
          clear hki
          obtain ⟨k, rfl⟩ : ∃ j, k = j + 1 := ⟨k - 1, by omega⟩
          go_wp2_with fail
          refine (kbelow_any g s b (((k + 2 : Nat)) : Int) ok _ hr hb0 hb1 (by omega) (by omega)).mono ?_
          rintro e w4 ⟨hyes, hno, hc⟩
          have hz4 := hc.size
          have hc4 := hcg.trans hc
          have hO4 : OwnI w4 w.heap.size w4.heap.size A m c l := OwnI.of_own (hown.own.keep fun gg hA hl => hc.block gg hl (by have := (hown.own.row_ge gg (by rw [hA]; rfl)).1; omega)) hown.small
          clear hr hcg hc hown
          have HJ : ∃ (j : Nat) (b2 : Int) (ok2 : Bool), e = .returned (.int .i64 j) ∧ j < k + 2 ∧ RdrAt w4 g s b2 ok2 ∧ 0 ≤ b2 ∧ b2 ≤ 1000000 ∧ ((ok2 = true ∧ RR = shufT s k (swapL l (k + 1) j) b2) ∨ (ok2 = false ∧ RR = none)) := by
            rcases hst.out with ⟨rfl, hR⟩ | ⟨rfl, hR⟩
            · rw [if_pos rfl] at hyes hno
              cases hM : belowM s (((k + 2 : Nat)) : Int) b with
              | none =>
                obtain ⟨he, b2, hr2, h20, h21⟩ := hno hM
                exact ⟨0, b2, false, he, by omega, hr2, h20, h21, .inr ⟨rfl, hR.trans (shufT_none hM)⟩⟩
              | some p =>
                obtain ⟨v, b2⟩ := p
                obtain ⟨he, hr2⟩ := hyes v b2 hM
                have hv := belowM_bd hM hb0 hb1
                obtain ⟨j, rfl⟩ := Int.eq_ofNat_of_zero_le hv.1
                exact ⟨j, b2, true, he, by omega, hr2, hv.2.2.1, hv.2.2.2, .inl ⟨rfl, by rw [hR, shufT_some hM, Int.toNat_natCast]⟩⟩
            · rw [if_neg (by simp)] at hyes hno
              obtain ⟨he, b2, hr2, h20, h21⟩ := hno rfl
              exact ⟨0, b2, false, he, by omega, hr2, h20, h21, .inr ⟨rfl, hR⟩⟩
          obtain ⟨j, b2, ok2, rfl, hj, hr4, h20, h21, hst2⟩ := HJ
          have HST := Lib.hid hst2
          clear hyes hno hst hst2
          obtain ⟨ga, rfl, hga, hgl4, hcg1, hfg1⟩ := hO4.own.at_ (show k + 1 < m by omega)
          obtain ⟨g2, hge2, _, _, hcg2, hfg2⟩ := hO4.own.at_ (show j < m by omega)
          simp only [Option.some.injEq, Addr.mk.injEq, and_true] at hge2
          subst hge2
          obtain ⟨x, hx⟩ : ∃ x, l[k + 1]?.getD 0 = x := ⟨_, rfl⟩
          obtain ⟨y, hy⟩ : ∃ y, l[j]?.getD 0 = y := ⟨_, rfl⟩
          rw [hx] at hcg1
          rw [hy] at hcg2
          have E := Lib.hid (show swapL l (k + 1) j = (l.set (k + 1) y).set j x by rw [swapL, hx, hy])
          clear hx hy
          have HR2 := Lib.hid (OwnI.fit ((hO4.set (k := k + 1) (x := y)).set (k := j) (x := x)) (Nat.le_refl _))
          have HR3 := Lib.hid ((hr4.far (p := ⟨ga, k + 1, none⟩) (by simp; omega) (.int .i64 y)).far (p := ⟨ga, j, none⟩) (by simp; omega) (.int .i64 x))
          have HR5 := Lib.hid ((hc4.setNew (p := ⟨ga, k + 1, none⟩) (by simp; omega) (.int .i64 y)).setNew (p := ⟨ga, j, none⟩) (by simp; omega) (.int .i64 x))
          rw [← E.out] at HR2
          obtain ⟨g3, hge3, _, _, hcg3, hfg3⟩ := (hO4.set (k := k + 1) (x := y)).own.at_ (show j < m by omega)
          simp only [Option.some.injEq, Addr.mk.injEq, and_true] at hge3
          subst hge3
          clear hO4 hr4 hc4 hgl4
          go_wp2
          go_roundw
          case rel => exact ⟨k, _, b2, _, ok2, by omega, rfl, Lib.hid (by omega), HR2.out, HR3.out, h20, h21, HST, HR5.out⟩
          case measure => simp [intOf]

end Go.Proofs.YtahbcnclhohnaaaGreat
