/- Several small texts in one: MyI, MyJ. -/
import Derived.Test.YtcjmapdeopffcaaHe
namespace Go.Proofs.Ytcjmapdeopffcaa

section
open Go.RowKit Flo
set_option linter.unusedVariables false

def rowS (m : Nat) (x : Nat → Nat → Int) (i : Nat) : Int := sm m (x i)
def colS (n : Nat) (x : Nat → Nat → Int) (j : Nat) : Int := sm n (fun i => x i j)
def totS (n m : Nat) (x : Nat → Nat → Int) : Int := sm n (rowS m x)
/-- A rounding of the call's own. -/
structure RndO (w : World) (p0 p1 p2 p3 : Nat) (A R C : Option Addr) (n m ca rc cc : Nat) (x : Nat → Nat → Int) : Prop where
  a : Mat w p0 p1 A n ca m x
  r : Vec w p1 p2 R n rc (rowS m x)
  c : Vec w p2 p3 C m cc (colS n x)
  l0 : p0 ≤ p1
  l1 : p1 ≤ p2
  l2 : p2 ≤ p3
theorem rndBd {n m : Nat} {x : Nat → Nat → Int} (hn : n ≤ 8) (hm : m ≤ 8) (hx : ∀ i j, i < n → j < m → 0 ≤ x i j ∧ x i j ≤ 1000000) : (∀ i, i < n → 0 ≤ rowS m x i ∧ rowS m x i ≤ 8000000) ∧ (∀ j, j < m → 0 ≤ colS n x j ∧ colS n x j ≤ 8000000) ∧ 0 ≤ totS n m x ∧ totS n m x ≤ 64000000 := by
  have h1 : ∀ i, i < n → 0 ≤ rowS m x i ∧ rowS m x i ≤ 8000000 := fun i hi => by
    have h := sm_bd (n := m) (f := x i) (b := 1000000) (fun k hk => hx i k hi hk)
    unfold rowS; omega
  refine ⟨h1, fun j hj => ?_, ?_⟩
  · have h := sm_bd (n := n) (f := fun i => x i j) (b := 1000000) (fun k hk => hx k j hk hj)
    unfold colS; omega
  · have h := sm_bd (n := n) (f := rowS m x) (b := 8000000) h1
    unfold totS; omega
theorem mat_lower {w : World} {lo lo' hi n c m : Nat} {A : Option Addr} {f : Nat → Nat → Int} (h : Mat w lo hi A n c m f) (hl : lo' ≤ lo) : Mat w lo' w.heap.size A n c m f := by
  obtain ⟨ys, h1, h2⟩ := h.cells
  exact ⟨⟨ys, row_mono h1 hl, h2.fit hl⟩, fun g hg => (row_ge h1 g hg).2, h.small⟩

set_option maxRecDepth 100000 in
set_option maxHeartbeats 8000000 in
theorem oMargins_any (n m : Nat) (A : Option Addr) (ca : Nat) (x : Nat → Nat → Int) (w : World) (hx : MatR w A n m x) (h1n : 1 ≤ n) (hn : n ≤ 8) (h1m : 1 ≤ m) (hm : m ≤ 8) (hb : ∀ i j, i < n → j < m → 0 ≤ x i j ∧ x i j ≤ 1000000) :
    Calls Try.prog 59 #[.slice A n ca] w fun e w' => ∃ (p0 p1 p2 p3 : Nat) (X R C : Option Addr) (xc rc cc : Nat), e = .returned (.agg #[.slice X n xc, .slice R n rc, .slice C m cc, .int .i64 (totS n m x)]) ∧ RndO w' p0 p1 p2 p3 X R C n m xc rc cc x ∧ w.heap.size ≤ p0 ∧ Below w.heap.size w w' := by
  obtain ⟨hb1, hb2, hb3, hb4⟩ := rndBd hn hm hb
  have HB1 := Lib.hid hb1
  have HB2 := Lib.hid hb2
  have HBX := Lib.hid hb
  have b0 := below_new w (.cells #[.slice none 0 0, .slice none 0 0, .slice none 0 0, .int .i64 0] 26)
  have x0 := box_new w #[.slice none 0 0, .slice none 0 0, .slice none 0 0, .int .i64 0] 26
  obtain ⟨T0, hT0⟩ : ∃ T0, w.heap.size = T0 := ⟨_, rfl⟩
  have HT0 := Lib.hid hT0
  have hz1 : (w.alloc (.cells #[.slice none 0 0, .slice none 0 0, .slice none 0 0, .int .i64 0] 26)).heap.size = T0 + 1 := by rw [← HT0.out]; simp
  have HX1 := Lib.hid (IntsS.below hx b0)
  rw [hT0] at x0
  have B0 := Lib.hid b0
  have X0 := Lib.hid x0
  have HZ1 := Lib.hid hz1
  clear hx hb hb1 hb2 b0 x0 hz1
  go_enter Try.func59, Try.ntmps59
  go_wp2_with fail
  generalize w.alloc (.cells #[.slice none 0 0, .slice none 0 0, .slice none 0 0, .int .i64 0] 26) = w1 at *
  refine (tOwn_any A n ca m x _ HX1.out (by omega) h1m (by omega)).mono ?_
  rintro e w2 ⟨X, xc, rfl, o2, b2⟩
  obtain ⟨F, hF⟩ : ∃ F, w2.heap.size = F := ⟨_, rfl⟩
  have HF := Lib.hid hF
  have bF := below_new w2 (.cells #[.slice X n xc, .slice none 0 0, .slice none 0 0, .int .i64 0] 26)
  have xF := box_new w2 #[.slice X n xc, .slice none 0 0, .slice none 0 0, .int .i64 0] 26
  have hzF : (w2.alloc (.cells #[.slice X n xc, .slice none 0 0, .slice none 0 0, .int .i64 0] 26)).heap.size = F + 1 := by rw [← HF.out]; simp
  rw [hF] at xF
  have HO2 := Lib.hid (o2.below bF)
  rw [HZ1.out, HF.out] at HO2
  have HBF : Hid (Below w1.heap.size w1 (w2.alloc (.cells #[.slice X n xc, .slice none 0 0, .slice none 0 0, .int .i64 0] 26))) := Lib.hid (b2.trans (bF.mono b2.size))
  have XF := Lib.hid xF
  have HZF := Lib.hid hzF
  have hFT : T0 + 1 ≤ F := by have := b2.size; rw [HZ1.out] at this; omega
  clear o2 b2 bF xF hzF
  go_wp2_with fail
  generalize w2.alloc (.cells #[.slice X n xc, .slice none 0 0, .slice none 0 0, .int .i64 0] 26) = wc at *
  have O0 : Hid (Own wc (F + 1) none 0 0 (lst 0 (rowS m x))) := Lib.hid Own.nil_
  have B5 : Hid (Below F wc wc) := Lib.hid (Below.refl _ _)
  have hz5' : F + 1 ≤ wc.heap.size := by rw [HZF.out]; exact Nat.le_refl _
  go_loopw [12] (fun i wr => ∃ (k : Nat) (D : Option Addr) (cD : Nat), k ≤ n ∧ i = .int .i64 k ∧ Hid (wr.heap[F]? = some (.cells #[.slice X n xc, .slice D k cD, .slice none 0 0, .int .i64 0] 26 (0, 0))) ∧ Hid (Own wr (F + 1) D k cD (lst k (rowS m x))) ∧ Hid (Below F wc wr) ∧ F + 1 ≤ wr.heap.size) (fun i _ => n - (intOf i).toNat)
  case atStart => exact ⟨0, none, 0, Nat.zero_le _, rfl, XF, O0, B5, hz5'⟩
  case round =>
    clear O0 B5 hz5'
    obtain ⟨k, D, cD, hk, rfl, HX, HO, HB, hz⟩ := hrel
    have hb1 := HBF.out.trans (HB.out.mono (by rw [HZ1.out]; exact hFT))
    by_cases hlt : k < n
    · obtain ⟨ar, rfl, V, cv, cl, hv⟩ := matR_row (IntsS.below HX1.out hb1) hlt
      have hts := Lib.hid (tSum_any V m cv (x k) wr.drew (Ints.below hv (Below.refl _ _).drew) (by omega) (fun j hj => by have := HBX.out k j hlt hj; omega))
      have q0 := box_cell HX.out 1 (.slice D k cD) rfl
      have q5 : (wr.alloc (.cells #[.int .i64 (sm m (x k))] 3)).cell? ⟨F, 1, none⟩ = some (.slice D k cD) := box_cell (box_below HX.out (below_new _ _)) 1 _ rfl
      have ho' := HO.out
      have HG7 := Lib.hid (fun (w7 : World) (A3 : Option Addr) (c3 : Nat) (own7 : Own w7 (F + 1) A3 (k + 1) c3 (lst k (rowS m x) ++ [sm m (x k)])) (hgr : wr.grownBy w7 (rowOf D)) => (show _ from grow_one (i := 1) HX.out (Nat.le_refl _) HO.out HB.out hz hgr own7 (by show 1 < 4; omega)))
      clear hv hb1
      generalize sm m (x k) = s at *
      go_wp2_with fail
      go_region_law ((first
        | (go_simp; go_at_call 85; refine hts.out.mono ?_; rintro e w6 ⟨rfl, rfl⟩; dsimp only)
        | (refine step_app1d (by rfl) _ _ (by rfl) (F + 1) D k cD (lst k (rowS m x)) (by rfl) (by exact ho') _ (by rfl) (by rfl) (by omega) (by exact hz) ?_; intro A3 c3 w7 own7 grow7 _; obtain ⟨y0, y1, y2, y3, y4⟩ := HG7.out w7 A3 c3 own7 grow7; have q2 := box_cell y0 1 _ rfl; have q3 := box_free y0 1; have Y1 := Lib.hid y1; have Y2 := Lib.hid y2; have Y3 := Lib.hid y3; have Y4 := Lib.hid y4; clear y0 y1 y2 y3 y4 own7 grow7)))
      all_goals (clear q0 q2 q3 q5 hts cl)
      all_goals go_wp2
      all_goals go_roundw
      all_goals first | exact ⟨k + 1, A3, c3, by omega, by go_num, Y1, Y2, Y3, Y4.out⟩ | (simp [intOf]; omega)
    · obtain rfl : k = n := by omega
      obtain ⟨h3, hh3⟩ : ∃ h3, wr.heap.size = h3 := ⟨_, rfl⟩
      have H3 := Lib.hid hh3
      obtain ⟨ar, rfl, V0, cv0, r0, _⟩ := matR_row (IntsS.below HX1.out hb1) (show 0 < k by omega)
      have r0 : wr.cell? ar = some (.slice V0 m cv0) := by simpa [Addr.add] using r0
      have O0 : Hid (Own wr h3 none 0 0 (lst 0 (colS k x))) := Lib.hid Own.nil_
      have hz3 : F + 1 ≤ h3 := by omega
      have P0 : Hid (OwnI wr (F + 1) h3 D k cD (lst k (rowS m x))) := Lib.hid (by rw [← hh3]; exact OwnI.of_own HO.out (by omega))
      have hzw : h3 ≤ wr.heap.size := by omega
      clear hb1 hh3 hlt HO hz
      go_wp2_with fail
      clear r0
      go_loopw [28] (fun i wr => ∃ (j : Nat) (E : Option Addr) (cE : Nat), j ≤ m ∧ i = .int .i64 j ∧ Hid (wr.heap[F]? = some (.cells #[.slice X k xc, .slice D k cD, .slice E j cE, .int .i64 0] 26 (0, 0))) ∧ Hid (OwnI wr (F + 1) h3 D k cD (lst k (rowS m x))) ∧ Hid (Own wr h3 E j cE (lst j (colS k x))) ∧ Hid (Below F wc wr) ∧ h3 ≤ wr.heap.size) (fun i _ => m - (intOf i).toNat)
      case atStart => exact ⟨0, none, 0, Nat.zero_le _, rfl, HX, P0, O0, HB, hzw⟩
      case round =>
        clear O0 P0 HX HB hzw
        obtain ⟨j, E, cE, hj, rfl, HX, HP, HO, HB, hz⟩ := hrel
        have hb1 := HBF.out.trans (HB.out.mono (by rw [HZ1.out]; exact hFT))
        by_cases hlt : j < m
        · have htc := Lib.hid (tColumn_any (some ar) k ca m j x wr.drew (IntsS.below HX1.out (hb1.drew)) (by omega) hlt)
          have hts := Lib.hid (fun (w6 : World) (A' : Option Addr) (c' : Nat) (h : VecR w6 A' k (fun i => x i j)) => tSum_any A' k c' (fun i => x i j) w6 h (by omega) (fun i hi => by have := HBX.out i j hi hlt; omega))
          have q0 := box_cell HX.out 2 (.slice E j cE) rfl
          have HG6 := Lib.hid (fun (w6 : World) (hb : Below wr.heap.size wr w6) => (show w6.heap[F]? = some (.cells #[.slice X k xc, .slice D k cD, .slice E j cE, .int .i64 0] 26 (0, 0)) ∧ OwnI w6 (F + 1) h3 D k cD (lst k (rowS m x)) ∧ Own w6 h3 E j cE (lst j (colS k x)) ∧ Below F wc w6 ∧ h3 ≤ w6.heap.size from
            ⟨box_below HX.out hb, HP.out.below hb, HO.out.below hb, HB.out.trans (hb.mono (by have := HB.out.size; omega)), Nat.le_trans hz hb.size⟩))
          have HG7 := Lib.hid (fun (w6 w7 : World) (A3 : Option Addr) (c3 : Nat) (hb : Below wr.heap.size wr w6) (own7 : Own w7 h3 A3 (j + 1) c3 (lst j (colS k x) ++ [sm k (fun i => x i j)])) (hgr : w6.grownBy w7 (rowOf E)) => And.intro (grow_two (i := 2) (v := .slice A3 (j + 1) c3) (F := F) (HG6.out w6 hb).2.1 (by omega) (HG6.out w6 hb).2.2.1 hgr) (grow_one (i := 2) (HG6.out w6 hb).1 hz3 (HG6.out w6 hb).2.2.1 (HG6.out w6 hb).2.2.2.1 (HG6.out w6 hb).2.2.2.2 hgr own7 (by show 2 < 4; omega)))
          clear HB hb1 HX HP HO
          generalize sm k (fun i => x i j) = s at *
          go_wp2_with fail
          go_region_law ((first
            | (go_simp; go_at_call 86; refine htc.out.mono ?_; rintro e w6 ⟨A', c', rfl, o6, b6⟩; have B6 : Hid (Below wr.heap.size wr w6) := Lib.hid ((Below.refl _ _).drew.trans b6); obtain ⟨z0, _, z2, _, z4⟩ := HG6.out w6 B6.out; have q2 := box_cell z0 2 _ rfl; have q5 : (w6.alloc (.cells #[.int .i64 s] 3)).cell? ⟨F, 2, none⟩ = some (.slice E j cE) := box_cell (box_below z0 (below_new _ _)) 2 _ rfl; have O6 := Lib.hid o6; clear z0 o6 b6; dsimp only)
            | (go_simp; go_at_call 85; refine (hts.out _ A' c' O6.out.ints).mono ?_; rintro e w9 ⟨rfl, rfl⟩; dsimp only)
            | (refine step_app1m (by rfl) _ _ (by rfl) h3 E j cE (lst j (colS k x)) (by rfl) (by exact z2) _ (by rfl) (by rfl) (by omega) (by exact z4) ?_; intro A3 c3 w7 own7 grow7 _; obtain ⟨y5, y0, y1, y2, y3, y4⟩ := HG7.out w6 w7 A3 c3 B6.out own7 grow7; have q3 := box_cell y0 2 _ rfl; have q4 := box_free y0 2; have Y1 := Lib.hid y1; have Y2 := Lib.hid y2; have Y3 := Lib.hid y3; have Y4 := Lib.hid y4; have Y5 := Lib.hid y5; clear y0 y1 y2 y3 y4 y5 own7 grow7)))
          all_goals (clear q2 q3 q4 q5 z2 z4 hts htc)
          all_goals go_wp2
          all_goals go_roundw
          all_goals first | exact ⟨j + 1, A3, c3, by omega, by go_num, Y1, Y5, Y2, Y3, Y4.out⟩ | (simp [intOf]; omega)
        · obtain rfl : j = m := by omega
          have q1 := box_cell HX.out 1 (.slice D k cD) rfl
          have HPR : Hid (VecR wr D k (rowS j x)) := Lib.hid HP.out.ints
          have HBr := Lib.hid hb1
          clear hb1
          go_wp2_with fail
          refine (tSum_any D k cD (rowS j x) _ HPR.out (by omega) (fun i hi => by have := HB1.out i hi; omega)).mono ?_
          rintro e w9 ⟨rfl, rfl⟩
          obtain ⟨tt, htt⟩ : ∃ tt, sm k (rowS j x) = tt := ⟨_, rfl⟩
          have HTT := Lib.hid htt
          rw [htt]
          have q3 := box_cell HX.out 3 (.int .i64 0) rfl
          have q4 := box_free HX.out 3
          have hx9 := box_set HX.out 3 (.int .i64 tt)
          have hc9 := (Chg.refl F (F + 1) wr).set (i := 3) (v := .int .i64 tt) (Nat.le_refl _) (by omega)
          have HOE : Hid (Vec (wr.setCell ⟨F, 3, none⟩ (.int .i64 tt)) h3 wr.heap.size E j cE (colS k x)) := Lib.hid ((OwnI.of_own HO.out (by omega)).chg hc9 (.inr hz3))
          have HOD := Lib.hid (HP.out.chg hc9 (.inr (Nat.le_refl _)))
          have HOX : Hid (Mat (wr.setCell ⟨F, 3, none⟩ (.int .i64 tt)) (T0 + 1) F X k xc j x) := Lib.hid ((HO2.out.keep fun g h1 h2 h3 => HB.out.block g h2).chg hc9 (.inl (Nat.le_refl _)))
          have hb9 := B0.out.trans ((hc9.below HBr.out (by rw [HZ1.out]; exact hFT) HBr.out.size).mono (by rw [HZ1.out]; omega))
          have HB9 := Lib.hid hb9
          have hxT := box_chg (box_below X0.out HBr.out) hc9 (by omega)
          have r0 := box_cell hx9 0 (.slice X k xc) rfl
          have r1 := box_cell hx9 1 (.slice D k cD) rfl
          have r2 := box_cell hx9 2 (.slice E j cE) rfl
          have r3 := box_cell hx9 3 (.int .i64 tt) rfl
          have z0 := box_cell hxT 0 (.slice none 0 0) rfl
          have z1 := box_cell hxT 1 (.slice none 0 0) rfl
          have z2 := box_cell hxT 2 (.slice none 0 0) rfl
          have z3 := box_cell hxT 3 (.int .i64 0) rfl
          have y0 := box_free hxT 0
          have y1 := box_free hxT 1
          have y2 := box_free hxT 2
          have y3 := box_free hxT 3
          have HXT := Lib.hid hxT
          clear hc9 hb9 hx9 hxT HP HO HX HB htt
          go_upto_region 13 with (fail)
          clear q1 q3 q4
          generalize wr.setCell ⟨F, 3, none⟩ (.int .i64 tt) = wH at *
          have hcF : Chg T0 (T0 + 1) wH ((((wH.setCell ⟨T0, 0, none⟩ (.slice X k xc)).setCell ⟨T0, 1, none⟩ (.slice D k cD)).setCell ⟨T0, 2, none⟩ (.slice E j cE)).setCell ⟨T0, 3, none⟩ (.int .i64 tt)) := ((((Chg.refl _ _ wH).set (Nat.le_refl _) (by omega)).set (Nat.le_refl _) (by omega)).set (Nat.le_refl _) (by omega)).set (Nat.le_refl _) (by omega)
          have hsz3 : h3 ≤ wr.heap.size := hz
          have HFin := Lib.hid (show RndO _ (T0 + 1) F h3 wr.heap.size X D E k j xc cD cE x ∧ Below w.heap.size w _ from ⟨⟨HOX.out.chg hcF (.inr (Nat.le_refl _)), ⟨((HOD.out.chg hcF (.inr (by omega))).own.mono (by omega)), fun q hq => (HOD.out.chg hcF (.inr (by omega))).top q hq, HOD.out.small⟩, HOE.out.chg hcF (.inr (by omega)), hFT, by omega, hsz3⟩, hcF.below HB9.out (by rw [HT0.out]; exact Nat.le_refl _) HB9.out.size⟩)
          have v0 := box_cell (box_set (box_set (box_set (box_set HXT.out 0 (.slice X k xc)) 1 (.slice D k cD)) 2 (.slice E j cE)) 3 (.int .i64 tt)) 0 (.slice X k xc) rfl
          have v1 := box_cell (box_set (box_set (box_set (box_set HXT.out 0 (.slice X k xc)) 1 (.slice D k cD)) 2 (.slice E j cE)) 3 (.int .i64 tt)) 1 (.slice D k cD) rfl
          have v2 := box_cell (box_set (box_set (box_set (box_set HXT.out 0 (.slice X k xc)) 1 (.slice D k cD)) 2 (.slice E j cE)) 3 (.int .i64 tt)) 2 (.slice E j cE) rfl
          have v3 := box_cell (box_set (box_set (box_set (box_set HXT.out 0 (.slice X k xc)) 1 (.slice D k cD)) 2 (.slice E j cE)) 3 (.int .i64 tt)) 3 (.int .i64 tt) rfl
          clear hcF HXT HOX HOD HOE
          go_wp2
          refine bodyPost_ret (v := .agg #[.slice X k xc, .slice D k cD, .slice E j cE, .int .i64 tt]) (by simp [results, Try.results59, go_sem, v0, v1, v2, v3]) rfl ⟨T0 + 1, F, h3, _, X, D, E, xc, cD, cE, ?_, HFin.out.1, by rw [HT0.out]; omega, HFin.out.2⟩
          rw [← HTT.out]; rfl
end

section
open Go.RowKit Flo
set_option linter.unusedVariables false

theorem own_cap {w : World} {B n c : Nat} {A : Option Addr} {xs : List Int} (h : Own w B A n c xs) : n ≤ c := by
  rcases h.2 with ⟨h1, h2⟩ | ⟨g, cap, cur, h1, _, _, h4, _⟩
  · omega
  · injection h1 with h1 h2 h3; omega
theorem mat_caps {w : World} {lo hi n c m i : Nat} {A : Option Addr} {f : Nat → Nat → Int} (h : Mat w lo hi A n c m f) (hi' : i < n) : n ≤ c ∧ ∃ g0 V cv, A = some ⟨g0, 0, none⟩ ∧ w.cell? ⟨g0, i, none⟩ = some (.slice V m cv) ∧ OwnI w lo hi V m cv (lst m (f i)) ∧ m ≤ cv := by
  obtain ⟨g0, V, cv, rfl, h1, hV, _, _, _, _, _⟩ := OwnII.inner h hi'
  simp only [lst_len] at h1 hV
  obtain ⟨ys, h2, _⟩ := h.cells
  refine ⟨?_, g0, V, cv, rfl, h1, hV, own_cap hV.own⟩
  rcases h2.2 with ⟨h3, h4⟩ | ⟨g, cap, cur, h3, _, _, h4, _⟩
  · cases h3
  · injection h3 with _ _ h5; omega

set_option maxRecDepth 100000 in
set_option maxHeartbeats 8000000 in
theorem oFrom_any (n m : Nat) (A : Option Addr) (ca p q : Nat) (b : Int) (f : Nat → Nat → Int) (w : World) (hx : Mat w p q A (n + 1) ca (m + 1) f) (h1n : 1 ≤ n) (hn : n ≤ 8) (h1m : 1 ≤ m) (hm : m ≤ 8) (hb : ∀ i j, i < n → j < m → 0 ≤ f i j * b ∧ f i j * b ≤ 1000000) :
    Calls Try.prog 34 #[.slice A (n + 1) ca, .int .i64 b] w fun e w' => ∃ (p0 p1 p2 p3 : Nat) (X R C : Option Addr) (xc rc cc : Nat), e = .returned (.agg #[.slice X n xc, .slice R n rc, .slice C m cc, .int .i64 (totS n m (fun i j => f i j * b))]) ∧ RndO w' p0 p1 p2 p3 X R C n m xc rc cc (fun i j => f i j * b) ∧ w.heap.size ≤ p0 ∧ Below w.heap.size w w' := by
  obtain ⟨T0, hT0⟩ : ∃ T0, w.heap.size = T0 := ⟨_, rfl⟩
  have HT0 := Lib.hid hT0
  have hz1 : (w.alloc (.cells #[.slice none 0 0, .slice none 0 0, .slice none 0 0, .int .i64 0] 26)).heap.size = T0 + 1 := by rw [← HT0.out]; simp
  have b0 := below_new w (.cells #[.slice none 0 0, .slice none 0 0, .slice none 0 0, .int .i64 0] 26)
  have x0 := box_new w #[.slice none 0 0, .slice none 0 0, .slice none 0 0, .int .i64 0] 26
  rw [hT0] at x0
  obtain ⟨hcap, g0, _, _, rfl, _, _, _⟩ := mat_caps hx (show 0 < n + 1 by omega)
  have HX1 := Lib.hid (hx.below b0)
  have HBX := Lib.hid hb
  have B0 := Lib.hid b0
  have X0 := Lib.hid x0
  have HZ1 := Lib.hid hz1
  obtain ⟨n1, hn1⟩ : ∃ n1 : Nat, n1 = n + 1 := ⟨_, rfl⟩
  have e1 : (n1 : Int) - 1 = (n : Int) := by omega
  have HN1 := Lib.hid hn1
  rw [← hn1]
  have hcap1 : n ≤ ca := by omega
  have hcap2 : n1 ≤ ca := by omega
  clear hx hb b0 x0 hz1 hn1
  go_enter Try.func34, Try.ntmps34
  go_wp2_with fail
  generalize w.alloc (.cells #[.slice none 0 0, .slice none 0 0, .slice none 0 0, .int .i64 0] 26) = w1 at *
  have O0 : Hid (Mat w1 (T0 + 1) w1.heap.size none 0 0 m (fun i j => f i j * b)) := Lib.hid mat_nil
  have HB0 : Hid (Below w1.heap.size w1 w1) := Lib.hid (Below.refl _ _)
  clear e1
  go_loopw [5, 17] (fun av iv wr => ∃ (k : Nat) (D : Option Addr) (cD : Nat), k ≤ n ∧ iv = .int .i64 k ∧ av = .slice D k cD ∧ Hid (Mat wr (T0 + 1) wr.heap.size D k cD m (fun i j => f i j * b)) ∧ Hid (Below w1.heap.size w1 wr)) (fun _ iv _ => n - (intOf iv).toNat)
  case atStart => exact ⟨0, none, 0, Nat.zero_le _, rfl, rfl, O0, HB0⟩
  case round =>
    clear O0 HB0
    obtain ⟨k, D, cD, hk, rfl, rfl, HO, HB⟩ := hrel
    obtain ⟨wo, rfl⟩ : ∃ wo : World, wo = wr := ⟨_, rfl⟩
    by_cases hlt : k < n
    · have hxr := HX1.out.below HB.out
      obtain ⟨_, g1, V, cv, eg1, c0, hv, hmc⟩ := mat_caps hxr (show k < n + 1 by omega)
      obtain rfl : g0 = g1 := congrArg Addr.block (Option.some.inj eg1)
      obtain ⟨gv, rfl, _, _⟩ := hv.own.head (by omega)
      obtain ⟨ys, ho, hs⟩ := HO.out.cells
      have hz : T0 + 1 ≤ wo.heap.size := by have := HB.out.size; rw [HZ1.out] at this; exact this
      have HV := Lib.hid hv.ints
      have HS := Lib.hid (fun (w6 : World) (D6 : Option Addr) (c6 : Nat) (wa : World) (g rc : Nat) (o : Obj) => mat_snoc (w6 := w6) (D6 := D6) (c6 := c6) (wa := wa) (g := g) (rc := rc) (o := o) ho hs hz (by omega))
      have HR := Lib.hid (fun q hq => (row_ge ho q hq).1)
      have HH := Lib.hid ho
      obtain ⟨m1, hm1⟩ : ∃ m1 : Nat, m1 = m + 1 := ⟨_, rfl⟩
      have e2 : (m1 : Int) - 1 = (m : Int) := by omega
      rw [← hm1] at c0 HV hmc
      have hmc2 : m ≤ cv := by omega
      have HM1 := Lib.hid hm1
      have P0 : Hid (Own wo wo.heap.size none 0 0 (lst 0 (fun j => f k j * b))) := Lib.hid Own.nil_
      have Q0 : Hid (Below wo.heap.size wo wo) := Lib.hid (Below.refl _ _)
      clear hv hs ho HO hxr eg1 hm1
      go_wp2_with fail
      clear c0 e2
      go_loopw [8, 27] (fun pv jv wq => ∃ (j : Nat) (P : Option Addr) (cP : Nat), j ≤ m ∧ jv = .int .i64 j ∧ pv = .slice P j cP ∧ Hid (Own wq wo.heap.size P j cP (lst j (fun j => f k j * b))) ∧ Hid (Below wo.heap.size wo wq)) (fun _ jv _ => m - (intOf jv).toNat)
      case atStart => exact ⟨0, none, 0, Nat.zero_le _, rfl, rfl, P0, Q0⟩
      case round =>
        clear P0 Q0
        obtain ⟨j, P, cP, hj, rfl, rfl, HP, HQ⟩ := hrel
        by_cases hlj : j < m
        · obtain ⟨gv', egv, cx⟩ := vecR_at (Ints.below HV.out HQ.out) (show j < m1 by have := HM1.out; omega)
          obtain rfl : gv' = ⟨gv, 0, none⟩ := (Option.some.inj egv).symm
          rw [Addr.add_lit, Nat.zero_add] at cx
          have hbd := HBX.out k j hlt hlj
          obtain ⟨hbd1, hbd2⟩ := hbd
          have hz2 := HQ.out.size
          have hp := HP.out
          have HS1 := Lib.hid (lst_snoc (m := j) (g := fun j => f k j * b))
          have HR1 := Lib.hid (fun q hq => (HP.out.row_ge q hq).1)
          generalize f k j = v at *
          have W1 : IntKind.i64.wrap (v * b) = v * b := IntWalk.i64_in _ ⟨by omega, by omega⟩
          clear egv
          go_wp2_with (at_builtin; refine wp_app1 rfl _ _ rfl wo.heap.size P j cP _ rfl hp _ rfl rfl (by omega) hz2 ?_; intro D2 cD2 w6 ho6 hg6 _; have HO6 := Lib.hid ho6; have HB6 := Lib.hid (HQ.out.grown hg6 hz2 HR1.out); rw [← HS1.out] at HO6; clear ho6 hg6)
          go_roundw
          case rel => exact ⟨j + 1, D2, cD2, by omega, by go_num, rfl, HO6, HB6⟩
          case measure => simp [intOf]; omega
        · obtain rfl : j = m := by omega
          obtain ⟨g5, rfl, _, _⟩ := HP.out.head (by omega)
          have hoB := row_below HH.out HQ.out
          have s5 := HQ.out.size
          have HP5 := Lib.hid HP.out
          have HBB := Lib.hid (HB.out.trans (HQ.out.mono HB.out.size))
          clear HP
          go_wp2_with (at_builtin; refine wp_appII1 rfl _ _ rfl (T0 + 1) D k cD ys rfl hoB _ rfl rfl rfl (by omega) (by omega) ?_; intro D6 c6 w6 hown6 hg6; have HM6 := Lib.hid (HS.out w6 D6 c6 wr g5 cP _ HQ.out HP5.out (by omega) hown6 hg6); have HB6 := Lib.hid (HBB.out.grown (grownBy_trans (World.grownBy_alloc wr _ _) hg6) HBB.out.size (fun q hq => by rw [HZ1.out]; exact HR.out q hq)); clear hown6 hg6)
          go_roundw
          case rel => exact ⟨k + 1, D6, c6, by omega, by go_num, rfl, HM6, HB6⟩
          case measure => simp [intOf]; omega
    · obtain rfl : k = n := by omega
      have HO5 := Lib.hid HO.out.read
      have HBo := Lib.hid HB.out
      have HXo := Lib.hid (box_below X0.out HB.out)
      clear HO HB
      go_wp2_with fail
      refine (oMargins_any k m D cD (fun i j => f i j * b) _ HO5.out h1n hn h1m hm HBX.out).mono ?_
      rintro e w6 ⟨p0, p1, p2, p3, X, R, C, xc, rc, cc, rfl, o6, hp6, b6⟩
      have hx6 := box_below HXo.out b6
      have z0 := box_cell hx6 0 (.slice none 0 0) rfl
      have z1 := box_cell hx6 1 (.slice none 0 0) rfl
      have z2 := box_cell hx6 2 (.slice none 0 0) rfl
      have z3 := box_cell hx6 3 (.int .i64 0) rfl
      have y0 := box_free hx6 0
      have y1 := box_free hx6 1
      have y2 := box_free hx6 2
      have y3 := box_free hx6 3
      have hsz : T0 + 1 ≤ wo.heap.size := by have := HBo.out.size; rw [HZ1.out] at this; exact this
      generalize htt : totS k m (fun i j => f i j * b) = tt at *
      have HTT := Lib.hid htt
      clear htt
      have hcF : Chg T0 (T0 + 1) w6 ((((w6.setCell ⟨T0, 0, none⟩ (.slice X k xc)).setCell ⟨T0, 1, none⟩ (.slice R k rc)).setCell ⟨T0, 2, none⟩ (.slice C m cc)).setCell ⟨T0, 3, none⟩ (.int .i64 tt)) := ((((Chg.refl _ _ w6).set (Nat.le_refl _) (by omega)).set (Nat.le_refl _) (by omega)).set (Nat.le_refl _) (by omega)).set (Nat.le_refl _) (by omega)
      have HFin := Lib.hid (show RndO _ p0 p1 p2 p3 X R C k m xc rc cc (fun i j => f i j * b) ∧ Below w.heap.size w _ from ⟨⟨o6.a.chg hcF (.inr (by omega)), o6.r.chg hcF (.inr (by have := o6.l0; omega)), o6.c.chg hcF (.inr (by have := o6.l0; have := o6.l1; omega)), o6.l0, o6.l1, o6.l2⟩, hcF.below ((B0.out.trans (HBo.out.mono B0.out.size)).trans (b6.mono (Nat.le_trans B0.out.size HBo.out.size))) (by rw [HT0.out]; exact Nat.le_refl _) (Nat.le_trans (Nat.le_trans B0.out.size HBo.out.size) b6.size)⟩)
      have v0 := box_cell (box_set (box_set (box_set (box_set hx6 0 (.slice X k xc)) 1 (.slice R k rc)) 2 (.slice C m cc)) 3 (.int .i64 tt)) 0 (.slice X k xc) rfl
      have v1 := box_cell (box_set (box_set (box_set (box_set hx6 0 (.slice X k xc)) 1 (.slice R k rc)) 2 (.slice C m cc)) 3 (.int .i64 tt)) 1 (.slice R k rc) rfl
      have v2 := box_cell (box_set (box_set (box_set (box_set hx6 0 (.slice X k xc)) 1 (.slice R k rc)) 2 (.slice C m cc)) 3 (.int .i64 tt)) 2 (.slice C m cc) rfl
      have v3 := box_cell (box_set (box_set (box_set (box_set hx6 0 (.slice X k xc)) 1 (.slice R k rc)) 2 (.slice C m cc)) 3 (.int .i64 tt)) 3 (.int .i64 tt) rfl
      have hp0 : w.heap.size ≤ p0 := by rw [HT0.out]; omega
      have HP0 := Lib.hid hp0
      clear hcF hx6 o6 hp6 b6 hp0
      go_wp2
      exact bodyPost_ret (v := .agg #[.slice X k xc, .slice R k rc, .slice C m cc, .int .i64 tt]) (by simp [results, Try.results34, go_sem, v0, v1, v2, v3]) rfl ⟨p0, p1, p2, p3, X, R, C, xc, rc, cc, by rw [HTT.out], HFin.out.1, HP0.out, HFin.out.2⟩
end
end Go.Proofs.Ytcjmapdeopffcaa
