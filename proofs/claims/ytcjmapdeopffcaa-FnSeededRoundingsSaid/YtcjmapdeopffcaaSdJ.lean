/- A drawn rounding. -/
import Derived.Test.YtcjmapdeopffcaaSdI
import Derived.Deep.RegionHeld3
namespace Go.Proofs.Ytcjmapdeopffcaa
open Go.RowKit Flo
set_option linter.unusedVariables false

theorem box_drew {w : World} {g : Nat} {o : Obj} (h : w.heap[g]? = some o) : w.drew.heap[g]? = some o := h
def DIr (w : World) (e : Ending) (w' : World) : Prop := ∃ (A X R C : Option Addr) (n c nx xc nr rc nc cc : Nat) (K M : Nat → List Int) (rs cs : List Int) (b t : Int), e = .returned (.tuple #[.slice A n c, .int .i64 b, .agg #[.slice X nx xc, .slice R nr rc, .slice C nc cc, .int .i64 t]]) ∧ Shrt n K ∧ IntsS w' A n K ∧ Shrt nx M ∧ RnR w' X R C nx nr nc M rs cs ∧ nr ≤ 8 ∧ nc ≤ 8 ∧ Below w.heap.size w w'

section
variable {w : World} {lo hi nx xc nr rc nc cc : Nat} {X R C : Option Addr} {L : Nat → List Int} {rs cs : List Int}
/-- A store into the first cell of the first row. -/
theorem RnO.first (h : RnO w lo hi X R C nx xc nr rc nc cc L rs cs) (hi' : 0 < nx) (hj : 0 < (L 0).length) : ∃ g0 g cv, X = some ⟨g0, 0, none⟩ ∧ w.cell? ⟨g0, 0, none⟩ = some (.slice (some ⟨g, 0, none⟩) (L 0).length cv) ∧ (∃ u : Int, w.cell? ⟨g, 0, none⟩ = some (.int .i64 u)) ∧ w.frozen? ⟨g, 0, none⟩ = false ∧ lo ≤ g ∧ g < hi ∧ lo ≤ g0 ∧ g ≠ g0 ∧
    ∀ v, RnO (w.setCell ⟨g, 0, none⟩ (.int .i64 v)) lo hi X R C nx xc nr rc nc cc (upd L 0 ((L 0).set 0 v)) rs cs := by
  obtain ⟨x0, x1, r0, r1, c0, c1, a, r, c, h1, h2, h3, h4, h5, h6, h7, h8, h9⟩ := h.ex
  obtain ⟨g0, g, cv, e, k1, k2, k3, k4, k5, k6, k7, _, _, k8, hback⟩ := a.cellAt hi' hj
  refine ⟨g0, g, cv, e, k1, k2, k3, by omega, by omega, by omega, k8, fun v => ?_⟩
  have hc : Chg x0 x1 w (w.setCell ⟨g, 0, none⟩ (.int .i64 v)) := (Chg.refl _ _ w).set k4 k6
  exact ⟨x0, x1, r0, r1, c0, c1, hback v, r.chg hc (by omega), c.chg hc (by omega), h1, h2, h3, h4, h5, h6, h7, h8, h9⟩
/-- Its rows' sums but the first. -/
theorem RnO.cut (h : RnO w lo hi X R C nx xc nr rc nc cc L rs cs) (hr : 0 < nr) : ∃ gr, R = some ⟨gr, 0, none⟩ ∧ nr ≤ rc ∧ ∀ wf, RnO wf lo hi X (some ⟨gr, 0, none⟩) C nx xc nr rc nc cc L rs cs → ∀ A', (0 < rc - 1 → A' = some ⟨gr, 1, none⟩) → RnR wf X A' C nx (nr - 1) nc L rs.tail cs := by
  obtain ⟨x0, x1, r0, r1, c0, c1, a, r, c, _⟩ := h.ex
  obtain ⟨gr, rfl, _, _⟩ := r.own.head hr
  have hrc : nr ≤ rc := by
    rcases r.own.2 with ⟨h0, h1⟩ | ⟨b, cap, cur, hv, _, _, hnc, _⟩
    · omega
    · injection hv with _ _ hv; omega
  refine ⟨gr, rfl, hrc, fun wf hf A' hA => ?_⟩
  have h1 := hf.read
  refine ⟨h1.x, ⟨by rw [List.length_tail, h1.r.1], fun hp => ?_⟩, h1.c⟩
  refine ⟨_, hA (by omega), fun j hj => ?_⟩
  obtain ⟨ad, e, hc⟩ := Ints.at_ h1.r (show j + 1 < nr by omega)
  injection e with e
  subst e
  have e2 : (⟨gr, 1, none⟩ : Addr).add j = (⟨gr, 0, none⟩ : Addr).add (j + 1) := by
    unfold Addr.add
    rcases Nat.eq_zero_or_pos j with h0 | h0
    · subst h0; rfl
    · rw [if_neg (by omega), if_neg (by omega)]
      show (⟨gr, 1 + j, none⟩ : Addr) = ⟨gr, 0 + (j + 1), none⟩
      rw [show 1 + j = 0 + (j + 1) by omega]
  rw [e2, hc]
  simp
end
set_option maxRecDepth 100000 in
set_option maxHeartbeats 4000000 in
theorem drawIR_any (A : Option Addr) (n c : Nat) (w : World) (hb : Byt w A n) (hn : n ≤ 9223372036854775807) :
    Calls Try.prog 19 #[.slice A n c] w (DIr w) := by
  obtain ⟨T, hT⟩ : ∃ T, w.heap.size = T := ⟨_, rfl⟩
  have HT := Lib.hid hT
  obtain ⟨w0, HW0⟩ : ∃ w0, Hid (w0 = w.alloc (.cells #[.slice none 0 0, .slice none 0 0, .slice none 0 0, .int .i64 0] 26)) := ⟨_, Lib.hid rfl⟩
  have b0 := below_new w (.cells #[.slice none 0 0, .slice none 0 0, .slice none 0 0, .int .i64 0] 26)
  have x0 := box_new w #[.slice none 0 0, .slice none 0 0, .slice none 0 0, .int .i64 0] 26
  have z0 : (w.alloc (.cells #[.slice none 0 0, .slice none 0 0, .slice none 0 0, .int .i64 0] 26)).heap.size = w.heap.size + 1 := by simp
  rw [← HW0.out] at b0 x0 z0
  have b1 := below_new w0 (.cells #[.slice A n c, .int .i64 0, .int .u64 0] 75)
  have x1 := box_new w0 #[.slice A n c, .int .i64 0, .int .u64 0] 75
  have z1 : (w0.alloc (.cells #[.slice A n c, .int .i64 0, .int .u64 0] 75)).heap.size = w0.heap.size + 1 := by simp
  have hc0 : Cur _ w0.heap.size 0 := cur_new2 x1 (by omega) (hb.below b0) (fun b hb => b1.block b hb) hn
  have x01 := box_below x0 b1
  rw [hT] at z0 b0 x01
  rw [z0] at z1 b1 hc0
  clear x1 hb x0
  go_enter Try.func19, Try.ntmps19
  go_wp2_with fail
  rw [← HW0.out]
  have B1 := Lib.hid (b0.trans (b1.mono (show T ≤ T + 1 by omega)))
  generalize w0.alloc (.cells #[.slice A n c, .int .i64 0, .int .u64 0] 75) = w1 at *
  clear HW0 b0 b1
  refine (anyGrid_any (T + 1) 0 w1 hc0 (by omega)).mono ?_
  rintro e w2 ⟨A1, n1, c1, K, rfl, HS, hO, hc2, hg2⟩
  rw [z1] at hO
  have y2 : T + 1 + 1 ≤ w2.heap.size := by have := hg2.size; omega
  have TB2 := Lib.hid (box_chg x01 hg2 (.inl (by omega)))
  have B2 := Lib.hid ((Chg.of_below (lo := T + 1) (hi := T + 1 + 1) (show Below w.heap.size w w1 by rw [hT]; exact B1.out)).trans hg2)
  clear hc0 hg2 x01 B1
  go_wp2_with fail
  refine (base_any (T + 1) _ w2 hc2 (by omega)).mono ?_
  rintro e w3 ⟨b, rfl, _, _, hc3, hg3⟩
  have y3 : T + 1 + 1 ≤ w3.heap.size := by have := hg3.size; omega
  have TB3 := Lib.hid (box_chg TB2.out hg3 (.inl (by omega)))
  have B3 := Lib.hid (B2.out.trans hg3)
  have HO3 := Lib.hid (hO.chg hg3 (.inr (by omega)))
  clear hc2 hg3 TB2 B2 hO
  go_wp2_with fail
  refine (seed0_any (T + 1) _ w3 hc3 (by omega)).mono ?_
  rintro e w4 ⟨s, rfl, _, _, hc4, hg4⟩
  have TB4 := Lib.hid (box_chg TB3.out hg4 (.inl (by omega)))
  have B4 := Lib.hid (B3.out.trans hg4)
  have HO4 := Lib.hid ((HO3.out.chg hg4 (.inr (by omega))).fit (Nat.le_refl _))
  have HC4 := Lib.hid hc4
  have z4 : T + 1 + 1 ≤ w4.heap.size := by have := hg4.size; omega
  clear hc3 hc4 hg4 TB3 B3 HO3 z1 z0 y2 y3
  go_wp2_with fail
  refine (specSR_any A1 n1 c1 b s K w4 HO4.out.read (by have := HS.1; omega) (fun j hj => by have := HS.2 j hj; omega)).mono ?_
  rintro e w5 ⟨hno, hyes, b5⟩
  have TB5 := Lib.hid (box_below TB4.out b5)
  have B5 := Lib.hid (B4.out.trans ((Chg.of_below (lo := T + 1) (hi := T + 1 + 1) b5)))
  have HO5 := Lib.hid (HO4.out.below b5)
  have HC5 := Lib.hid (HC4.out.below b5)
  have z5 := b5.size
  clear TB4 B4 HO4 HC4 b5
  obtain ⟨U, hU⟩ : ∃ U, w5.heap.size = U := ⟨_, rfl⟩
  cases hR : rndL n1 K b s
  case none =>
    rw [hno hR]
    clear hno hyes hR
    have b6 := below_new w5 (.cells #[.slice none 0 0, .slice none 0 0, .slice none 0 0, .int .i64 0] 26)
    have TB := Lib.hid (box_below TB5.out b6)
    have HO6 := Lib.hid (HO5.out.below b6)
    have B6 := Lib.hid (B5.out.then_ b6)
    clear b6 TB5 HO5 B5 HC5
    have tq0 := box_cell TB.out 0 _ rfl
    have tq1 := box_cell TB.out 1 _ rfl
    have tq2 := box_cell TB.out 2 _ rfl
    have tq3 := box_cell TB.out 3 _ rfl
    have f0 := box_free TB.out 0
    have f1 := box_free TB.out 1
    have f2 := box_free TB.out 2
    have f3 := box_free TB.out 3
    have hx4 := box4 (a := .slice A1 n1 c1) (b := .slice none 0 0) (c := .slice none 0 0) (d := .int .i64 0) TB.out
    have v0 := box_cell hx4 0 (.slice A1 n1 c1) rfl
    have v1 := box_cell hx4 1 (.slice none 0 0) rfl
    have v2 := box_cell hx4 2 (.slice none 0 0) rfl
    have v3 := box_cell hx4 3 (.int .i64 0) rfl
    have hq := chg4 (w := w5.alloc (.cells #[.slice none 0 0, .slice none 0 0, .slice none 0 0, .int .i64 0] 26)) (g := T) (a := .slice A1 n1 c1) (b := .slice none 0 0) (c := .slice none 0 0) (d := .int .i64 0)
    have HOF := Lib.hid (HO6.out.chg hq (.inr (by omega))).read
    have HBF := Lib.hid (hq.below (Chg.to_below (w := w) (by omega) B6.out) (by omega) (by have := B6.out.size; omega))
    clear hx4 hq HO6 B6 TB
    go_wp2
    refine bodyPost_ret (v := .tuple #[.slice A1 n1 c1, .int .i64 b, .agg #[.slice A1 n1 c1, .slice none 0 0, .slice none 0 0, .int .i64 0]]) (by simp [results, Try.results19, go_sem, v0, v1, v2, v3]) rfl ?_
    exact ⟨A1, A1, none, none, n1, c1, n1, c1, 0, 0, 0, 0, K, K, [], [], b, 0, rfl, HS, HOF.out, HS, ⟨HOF.out, ⟨rfl, fun h => by omega⟩, ⟨rfl, fun h => by omega⟩⟩, by omega, by omega, HBF.out⟩
  case some Y =>
    have hg : (inR b 2 100 && mxB n1 K) = true := by
      unfold rndL at hR
      split at hR
      case isTrue h => exact h.1
      case isFalse h => cases hR
    obtain ⟨p0, p1, p2, p3, X, R, C, xc, rc, cc, he, ho, hp⟩ := hyes Y hR
    rw [he]
    clear hno hyes hR he
    rw [Bool.and_eq_true] at hg
    obtain ⟨hn1, hn7, hm1, hm7, hsh, hxb⟩ := mxB_of hg.2
    have HSH := Lib.hid hsh
    have HXB := Lib.hid hxb
    clear hg hsh hxb
    have hm4 : (K 0).length ≤ 4 := HS.2 0 (by omega)
    obtain ⟨m, hm⟩ : ∃ m, (K 0).length = m := ⟨_, rfl⟩
    rw [hm] at hm1 hm7 hm4 HSH HXB ho ⊢
    obtain ⟨tt, htt⟩ : ∃ tt, totS n1 m Y = tt := ⟨_, rfl⟩
    rw [htt]
    have b6 := below_new w5 (.cells #[.slice X n1 xc, .slice R n1 rc, .slice C m cc, .int .i64 tt] 26)
    have x6 := box_new w5 #[.slice X n1 xc, .slice R n1 rc, .slice C m cc, .int .i64 tt] 26
    rw [hU] at x6
    have TB6 := Lib.hid (box_below TB5.out b6)
    have HO6 := Lib.hid (HO5.out.below b6)
    have B6 := Lib.hid (B5.out.then_ b6)
    have HC6 := Lib.hid (HC5.out.below b6)
    have HR6 := Lib.hid (RndO.rnO ho hp)
    clear hm htt
    go_wp2_with fail
    generalize w5.alloc (.cells #[.slice X n1 xc, .slice R n1 rc, .slice C m cc, .int .i64 tt] 26) = w6 at *
    refine (pick_any (T + 1) _ 8 w6 HC6.out (by omega) (by omega)).mono ?_
    rintro e w7 ⟨v, rfl, hv0, _, _, hg7⟩
    have YB := Lib.hid (box_chg x6 hg7 (.inr (by omega)))
    have TB := Lib.hid (box_chg TB6.out hg7 (.inl (by omega)))
    have HO7 := Lib.hid (HO6.out.chg hg7 (.inr (by omega)))
    have HR7 := Lib.hid ((HR6.out.below b6).chg hg7 (.inr (by omega)))
    have B7 := Lib.hid (B6.out.trans hg7)
    have z7 := hg7.size
    have hUT : T + 1 < U := by omega
    clear hg7 TB6 TB5 HO6 HO5 HR6 B6 B5 HC6 HC5 x6 b6
    have HSM : Shrt n1 (fun i => lst m (Y i)) := ⟨by omega, fun t ht => by rw [lst_len]; exact hm4⟩
    by_cases v0 : v = 0
    case pos =>
      subst v0
      obtain ⟨g0, gx, cv, rfl, p0, ⟨u0, p1⟩, fx, l0, l1, l2, ne, hback⟩ := HR7.out.first (by omega) (by rw [lst_len]; omega)
      rw [lst_len] at p0
      have y0 := box_cell YB.out 0 (.slice (some ⟨g0, 0, none⟩) n1 xc) rfl
      have i1 : 0 < n1 := by omega
      have i2 : 0 < m := by omega
      have HBK := Lib.hid (hback (wrap64 (u0 + b)))
      have HCZ := Lib.hid ((Chg.refl w4.heap.size w5.heap.size w7).set (i := 0) (v := .int .i64 (wrap64 (u0 + b))) l0 l1)
      replace HSM := HSM.upd (i := 0) (l := (lst m (Y 0)).set 0 (wrap64 (u0 + b))) (by rw [List.length_set, lst_len]; exact hm4)
      clear hback
      go_wp2_with fail
      clear p0 p1 fx y0
      generalize w7.setCell ⟨gx, 0, none⟩ (.int .i64 (wrap64 (u0 + b))) = wz at *
      replace YB := Lib.hid (box_chg YB.out HCZ.out (.inr (by omega)))
      replace TB := Lib.hid (box_chg TB.out HCZ.out (.inl (by omega)))
      have HOZ := Lib.hid (HO7.out.chg HCZ.out (.inl (by omega)))
      have HRF := Lib.hid (fun wf (hf : Chg T (T + 1) wz wf) => (HBK.out.chg hf (.inr (by omega))).read)
      have HBZ := Lib.hid (Chg.to_below (w := w) (lo := T + 1) (hi := T + 1 + 1) (by omega) ⟨HCZ.out.os.trans B7.out.os, HCZ.out.tape.trans B7.out.tape, HCZ.out.output.trans B7.out.output, Nat.le_trans B7.out.size HCZ.out.size, fun k hk ho => (HCZ.out.block k (Nat.lt_of_lt_of_le hk B7.out.size) (.inl (by omega))).trans (B7.out.block k hk ho)⟩)
      clear HCZ HBK HR7 HO7 B7
      have y0 : wz.cell? ⟨U, 0, none⟩ = some (.slice (some ⟨g0, 0, none⟩) n1 xc) := box_cell YB.out 0 _ rfl
      have y1 : wz.cell? ⟨U, 1, none⟩ = some (.slice R n1 rc) := box_cell YB.out 1 _ rfl
      have y2 : wz.cell? ⟨U, 2, none⟩ = some (.slice C m cc) := box_cell YB.out 2 _ rfl
      have y3 : wz.cell? ⟨U, 3, none⟩ = some (.int .i64 tt) := box_cell YB.out 3 _ rfl
      have tq0 := box_cell TB.out 0 (.slice none 0 0) rfl
      have tq1 := box_cell TB.out 1 (.slice none 0 0) rfl
      have tq2 := box_cell TB.out 2 (.slice none 0 0) rfl
      have tq3 := box_cell TB.out 3 (.int .i64 0) rfl
      have f0 := box_free TB.out 0
      have f1 := box_free TB.out 1
      have f2 := box_free TB.out 2
      have f3 := box_free TB.out 3
      have E0 : wz.drew.cell? ⟨U, 0, none⟩ = some (.slice (some ⟨g0, 0, none⟩) n1 xc) ∧ wz.drew.cell? ⟨U, 1, none⟩ = some (.slice R n1 rc) ∧ wz.drew.cell? ⟨U, 2, none⟩ = some (.slice C m cc) ∧ wz.drew.cell? ⟨U, 3, none⟩ = some (.int .i64 tt) := ⟨y0, y1, y2, y3⟩
      have hq9 := (chg4 (w := wz) (g := T) (a := .slice (some ⟨g0, 0, none⟩) n1 xc) (b := .slice R n1 rc) (c := .slice C m cc) (d := .int .i64 tt)).drew
      have yw9 := box_chg YB.out hq9 (.inr (by omega))
      have E9 : (((((wz.setCell ⟨T, 0, none⟩ (.slice (some ⟨g0, 0, none⟩) n1 xc)).setCell ⟨T, 1, none⟩ (.slice R n1 rc)).setCell ⟨T, 2, none⟩ (.slice C m cc)).setCell ⟨T, 3, none⟩ (.int .i64 tt)).drew).cell? ⟨U, 0, none⟩ = some (.slice (some ⟨g0, 0, none⟩) n1 xc) ∧ (((((wz.setCell ⟨T, 0, none⟩ (.slice (some ⟨g0, 0, none⟩) n1 xc)).setCell ⟨T, 1, none⟩ (.slice R n1 rc)).setCell ⟨T, 2, none⟩ (.slice C m cc)).setCell ⟨T, 3, none⟩ (.int .i64 tt)).drew).cell? ⟨U, 1, none⟩ = some (.slice R n1 rc) ∧ (((((wz.setCell ⟨T, 0, none⟩ (.slice (some ⟨g0, 0, none⟩) n1 xc)).setCell ⟨T, 1, none⟩ (.slice R n1 rc)).setCell ⟨T, 2, none⟩ (.slice C m cc)).setCell ⟨T, 3, none⟩ (.int .i64 tt)).drew).cell? ⟨U, 2, none⟩ = some (.slice C m cc) ∧ (((((wz.setCell ⟨T, 0, none⟩ (.slice (some ⟨g0, 0, none⟩) n1 xc)).setCell ⟨T, 1, none⟩ (.slice R n1 rc)).setCell ⟨T, 2, none⟩ (.slice C m cc)).setCell ⟨T, 3, none⟩ (.int .i64 tt)).drew).cell? ⟨U, 3, none⟩ = some (.int .i64 tt) := ⟨box_cell yw9 0 _ rfl, box_cell yw9 1 _ rfl, box_cell yw9 2 _ rfl, box_cell yw9 3 _ rfl⟩
      clear hq9 yw9
      go_region_held3 (fun w' => w'.cell? ⟨U, 0, none⟩ = some (.slice (some ⟨g0, 0, none⟩) n1 xc) ∧ w'.cell? ⟨U, 1, none⟩ = some (.slice R n1 rc) ∧ w'.cell? ⟨U, 2, none⟩ = some (.slice C m cc) ∧ w'.cell? ⟨U, 3, none⟩ = some (.int .i64 tt)) (first | with_reducible exact ⟨y0, y1, y2, y3⟩ | with_reducible exact E0 | with_reducible exact E9) (fail)
      clear E0 E9
      clear y0 y1 y2 y3 tq0 tq1 tq2 tq3 f0 f1 f2 f3
      have hx4 := box_drew (box4 (a := .slice (some ⟨g0, 0, none⟩) n1 xc) (b := .slice R n1 rc) (c := .slice C m cc) (d := .int .i64 tt) TB.out)
      have hq := (chg4 (w := wz) (g := T) (a := .slice (some ⟨g0, 0, none⟩) n1 xc) (b := .slice R n1 rc) (c := .slice C m cc) (d := .int .i64 tt)).drew
      have v0 : (((((wz.setCell ⟨T, 0, none⟩ (.slice (some ⟨g0, 0, none⟩) n1 xc)).setCell ⟨T, 1, none⟩ (.slice R n1 rc)).setCell ⟨T, 2, none⟩ (.slice C m cc)).setCell ⟨T, 3, none⟩ (.int .i64 tt)).drew).cell? ⟨T, 0, none⟩ = some (.slice (some ⟨g0, 0, none⟩) n1 xc) := box_cell hx4 0 _ rfl
      have v1 : (((((wz.setCell ⟨T, 0, none⟩ (.slice (some ⟨g0, 0, none⟩) n1 xc)).setCell ⟨T, 1, none⟩ (.slice R n1 rc)).setCell ⟨T, 2, none⟩ (.slice C m cc)).setCell ⟨T, 3, none⟩ (.int .i64 tt)).drew).cell? ⟨T, 1, none⟩ = some (.slice R n1 rc) := box_cell hx4 1 _ rfl
      have v2 : (((((wz.setCell ⟨T, 0, none⟩ (.slice (some ⟨g0, 0, none⟩) n1 xc)).setCell ⟨T, 1, none⟩ (.slice R n1 rc)).setCell ⟨T, 2, none⟩ (.slice C m cc)).setCell ⟨T, 3, none⟩ (.int .i64 tt)).drew).cell? ⟨T, 2, none⟩ = some (.slice C m cc) := box_cell hx4 2 _ rfl
      have v3 : (((((wz.setCell ⟨T, 0, none⟩ (.slice (some ⟨g0, 0, none⟩) n1 xc)).setCell ⟨T, 1, none⟩ (.slice R n1 rc)).setCell ⟨T, 2, none⟩ (.slice C m cc)).setCell ⟨T, 3, none⟩ (.int .i64 tt)).drew).cell? ⟨T, 3, none⟩ = some (.int .i64 tt) := box_cell hx4 3 _ rfl
      have HOF := Lib.hid (HOZ.out.chg hq (.inr (by omega))).read
      have HRR := Lib.hid (HRF.out _ hq)
      have HBF := Lib.hid (hq.below HBZ.out (by omega) HBZ.out.size)
      clear hx4 hq TB YB HOZ HRF HBZ
      generalize ((((wz.setCell ⟨T, 0, none⟩ (.slice (some ⟨g0, 0, none⟩) n1 xc)).setCell ⟨T, 1, none⟩ (.slice R n1 rc)).setCell ⟨T, 2, none⟩ (.slice C m cc)).setCell ⟨T, 3, none⟩ (.int .i64 tt)).drew = wf at *
      go_wp2
      refine bodyPost_ret (v := .tuple #[.slice A1 n1 c1, .int .i64 b, .agg #[.slice (some ⟨g0, 0, none⟩) n1 xc, .slice R n1 rc, .slice C m cc, .int .i64 tt]]) (by simp [results, Try.results19, go_sem, v0, v1, v2, v3]) rfl ?_
      exact ⟨A1, (some ⟨g0, 0, none⟩), R, C, n1, c1, n1, xc, n1, rc, m, cc, K, _, _, _, b, tt, rfl, HS, HOF.out, HSM, HRR.out, by omega, by omega, HBF.out⟩
    case neg =>
      have v0E : (v == 0) = false := by rw [beq_eq_false_iff_ne]; exact v0
      by_cases v1 : v = 1
      case pos =>
        subst v1
        have y3 := box_cell YB.out 3 (.int .i64 tt) rfl
        have d3 := box_free YB.out 3
        have HCZ := Lib.hid ((Chg.refl U (U + 1) w7).set (i := 3) (v := .int .i64 (wrap64 (tt + 1))) (Nat.le_refl _) (by omega))
        have YBN := Lib.hid (box_set YB.out 3 (.int .i64 (wrap64 (tt + 1))))
        go_wp2_with fail
        clear y3 d3
        generalize w7.setCell ⟨U, 3, none⟩ (.int .i64 (wrap64 (tt + 1))) = wz at *
        replace YB := YBN
        replace TB := Lib.hid (box_chg TB.out HCZ.out (.inl (by omega)))
        have HOZ := Lib.hid (HO7.out.chg HCZ.out (.inl (by omega)))
        have HRZ := Lib.hid (HR7.out.chg HCZ.out (.inl (by omega)))
        have HBZ := Lib.hid (Chg.to_below (w := w) (lo := T + 1) (hi := T + 1 + 1) (by omega) ⟨HCZ.out.os.trans B7.out.os, HCZ.out.tape.trans B7.out.tape, HCZ.out.output.trans B7.out.output, Nat.le_trans B7.out.size HCZ.out.size, fun k hk ho => (HCZ.out.block k (Nat.lt_of_lt_of_le hk B7.out.size) (.inl (by omega))).trans (B7.out.block k hk ho)⟩)
        have HRF := Lib.hid (fun wf (hf : Chg T (T + 1) wz wf) => (HRZ.out.chg hf (.inr (by omega))).read)
        clear HCZ HRZ HR7 HO7 B7
        have y0 : wz.cell? ⟨U, 0, none⟩ = some (.slice X n1 xc) := box_cell YB.out 0 _ rfl
        have y1 : wz.cell? ⟨U, 1, none⟩ = some (.slice R n1 rc) := box_cell YB.out 1 _ rfl
        have y2 : wz.cell? ⟨U, 2, none⟩ = some (.slice C m cc) := box_cell YB.out 2 _ rfl
        have y3 : wz.cell? ⟨U, 3, none⟩ = some (.int .i64 (wrap64 (tt + 1))) := box_cell YB.out 3 _ rfl
        have tq0 := box_cell TB.out 0 (.slice none 0 0) rfl
        have tq1 := box_cell TB.out 1 (.slice none 0 0) rfl
        have tq2 := box_cell TB.out 2 (.slice none 0 0) rfl
        have tq3 := box_cell TB.out 3 (.int .i64 0) rfl
        have f0 := box_free TB.out 0
        have f1 := box_free TB.out 1
        have f2 := box_free TB.out 2
        have f3 := box_free TB.out 3
        have E0 : wz.drew.cell? ⟨U, 0, none⟩ = some (.slice X n1 xc) ∧ wz.drew.cell? ⟨U, 1, none⟩ = some (.slice R n1 rc) ∧ wz.drew.cell? ⟨U, 2, none⟩ = some (.slice C m cc) ∧ wz.drew.cell? ⟨U, 3, none⟩ = some (.int .i64 (wrap64 (tt + 1))) := ⟨y0, y1, y2, y3⟩
        have hq9 := (chg4 (w := wz) (g := T) (a := .slice X n1 xc) (b := .slice R n1 rc) (c := .slice C m cc) (d := .int .i64 (wrap64 (tt + 1)))).drew
        have yw9 := box_chg YB.out hq9 (.inr (by omega))
        have E9 : (((((wz.setCell ⟨T, 0, none⟩ (.slice X n1 xc)).setCell ⟨T, 1, none⟩ (.slice R n1 rc)).setCell ⟨T, 2, none⟩ (.slice C m cc)).setCell ⟨T, 3, none⟩ (.int .i64 (wrap64 (tt + 1)))).drew).cell? ⟨U, 0, none⟩ = some (.slice X n1 xc) ∧ (((((wz.setCell ⟨T, 0, none⟩ (.slice X n1 xc)).setCell ⟨T, 1, none⟩ (.slice R n1 rc)).setCell ⟨T, 2, none⟩ (.slice C m cc)).setCell ⟨T, 3, none⟩ (.int .i64 (wrap64 (tt + 1)))).drew).cell? ⟨U, 1, none⟩ = some (.slice R n1 rc) ∧ (((((wz.setCell ⟨T, 0, none⟩ (.slice X n1 xc)).setCell ⟨T, 1, none⟩ (.slice R n1 rc)).setCell ⟨T, 2, none⟩ (.slice C m cc)).setCell ⟨T, 3, none⟩ (.int .i64 (wrap64 (tt + 1)))).drew).cell? ⟨U, 2, none⟩ = some (.slice C m cc) ∧ (((((wz.setCell ⟨T, 0, none⟩ (.slice X n1 xc)).setCell ⟨T, 1, none⟩ (.slice R n1 rc)).setCell ⟨T, 2, none⟩ (.slice C m cc)).setCell ⟨T, 3, none⟩ (.int .i64 (wrap64 (tt + 1)))).drew).cell? ⟨U, 3, none⟩ = some (.int .i64 (wrap64 (tt + 1))) := ⟨box_cell yw9 0 _ rfl, box_cell yw9 1 _ rfl, box_cell yw9 2 _ rfl, box_cell yw9 3 _ rfl⟩
        clear hq9 yw9
        go_region_held3 (fun w' => w'.cell? ⟨U, 0, none⟩ = some (.slice X n1 xc) ∧ w'.cell? ⟨U, 1, none⟩ = some (.slice R n1 rc) ∧ w'.cell? ⟨U, 2, none⟩ = some (.slice C m cc) ∧ w'.cell? ⟨U, 3, none⟩ = some (.int .i64 (wrap64 (tt + 1)))) (first | with_reducible exact ⟨y0, y1, y2, y3⟩ | with_reducible exact E0 | with_reducible exact E9) (fail)
        clear E0 E9
        clear y0 y1 y2 y3 tq0 tq1 tq2 tq3 f0 f1 f2 f3
        have hx4 := box_drew (box4 (a := .slice X n1 xc) (b := .slice R n1 rc) (c := .slice C m cc) (d := .int .i64 (wrap64 (tt + 1))) TB.out)
        have hq := (chg4 (w := wz) (g := T) (a := .slice X n1 xc) (b := .slice R n1 rc) (c := .slice C m cc) (d := .int .i64 (wrap64 (tt + 1)))).drew
        have v0 : (((((wz.setCell ⟨T, 0, none⟩ (.slice X n1 xc)).setCell ⟨T, 1, none⟩ (.slice R n1 rc)).setCell ⟨T, 2, none⟩ (.slice C m cc)).setCell ⟨T, 3, none⟩ (.int .i64 (wrap64 (tt + 1)))).drew).cell? ⟨T, 0, none⟩ = some (.slice X n1 xc) := box_cell hx4 0 _ rfl
        have v1 : (((((wz.setCell ⟨T, 0, none⟩ (.slice X n1 xc)).setCell ⟨T, 1, none⟩ (.slice R n1 rc)).setCell ⟨T, 2, none⟩ (.slice C m cc)).setCell ⟨T, 3, none⟩ (.int .i64 (wrap64 (tt + 1)))).drew).cell? ⟨T, 1, none⟩ = some (.slice R n1 rc) := box_cell hx4 1 _ rfl
        have v2 : (((((wz.setCell ⟨T, 0, none⟩ (.slice X n1 xc)).setCell ⟨T, 1, none⟩ (.slice R n1 rc)).setCell ⟨T, 2, none⟩ (.slice C m cc)).setCell ⟨T, 3, none⟩ (.int .i64 (wrap64 (tt + 1)))).drew).cell? ⟨T, 2, none⟩ = some (.slice C m cc) := box_cell hx4 2 _ rfl
        have v3 : (((((wz.setCell ⟨T, 0, none⟩ (.slice X n1 xc)).setCell ⟨T, 1, none⟩ (.slice R n1 rc)).setCell ⟨T, 2, none⟩ (.slice C m cc)).setCell ⟨T, 3, none⟩ (.int .i64 (wrap64 (tt + 1)))).drew).cell? ⟨T, 3, none⟩ = some (.int .i64 (wrap64 (tt + 1))) := box_cell hx4 3 _ rfl
        have HOF := Lib.hid (HOZ.out.chg hq (.inr (by omega))).read
        have HRR := Lib.hid (HRF.out _ hq)
        have HBF := Lib.hid (hq.below HBZ.out (by omega) HBZ.out.size)
        clear hx4 hq TB YB HOZ HRF HBZ
        generalize ((((wz.setCell ⟨T, 0, none⟩ (.slice X n1 xc)).setCell ⟨T, 1, none⟩ (.slice R n1 rc)).setCell ⟨T, 2, none⟩ (.slice C m cc)).setCell ⟨T, 3, none⟩ (.int .i64 (wrap64 (tt + 1)))).drew = wf at *
        go_wp2
        refine bodyPost_ret (v := .tuple #[.slice A1 n1 c1, .int .i64 b, .agg #[.slice X n1 xc, .slice R n1 rc, .slice C m cc, .int .i64 (wrap64 (tt + 1))]]) (by simp [results, Try.results19, go_sem, v0, v1, v2, v3]) rfl ?_
        exact ⟨A1, X, R, C, n1, c1, n1, xc, n1, rc, m, cc, K, _, _, _, b, (wrap64 (tt + 1)), rfl, HS, HOF.out, HSM, HRR.out, by omega, by omega, HBF.out⟩
      case neg =>
        have v1E : (v == 1) = false := by rw [beq_eq_false_iff_ne]; exact v1
        by_cases v2 : v = 2
        case pos =>
          subst v2
          obtain ⟨gr, rfl, hrc, hcut⟩ := HR7.out.cut (show 0 < n1 by omega)
          have y1 := box_cell YB.out 1 (.slice (some ⟨gr, 0, none⟩) n1 rc) rfl
          have d1 := box_free YB.out 1
          have i1 : 1 ≤ n1 := by omega
          have HCUT := Lib.hid hcut
          clear hcut
          go_wp2_with fail
          case inl =>
            subst h
            have HCZ := Lib.hid ((Chg.refl U (U + 1) w7).set (i := 1) (v := .slice (some ⟨gr, 0, none⟩) (n1 - 1) 0) (Nat.le_refl _) (by omega))
            have YBN := Lib.hid (box_set YB.out 1 (.slice (some ⟨gr, 0, none⟩) (n1 - 1) 0))
            clear y1 d1 hrc
            generalize w7.setCell ⟨U, 1, none⟩ (.slice (some ⟨gr, 0, none⟩) (n1 - 1) 0) = wz at *
            replace YB := YBN
            replace TB := Lib.hid (box_chg TB.out HCZ.out (.inl (by omega)))
            have HOZ := Lib.hid (HO7.out.chg HCZ.out (.inl (by omega)))
            have HRZ := Lib.hid (HR7.out.chg HCZ.out (.inl (by omega)))
            have HBZ := Lib.hid (Chg.to_below (w := w) (lo := T + 1) (hi := T + 1 + 1) (by omega) ⟨HCZ.out.os.trans B7.out.os, HCZ.out.tape.trans B7.out.tape, HCZ.out.output.trans B7.out.output, Nat.le_trans B7.out.size HCZ.out.size, fun k hk ho => (HCZ.out.block k (Nat.lt_of_lt_of_le hk B7.out.size) (.inl (by omega))).trans (B7.out.block k hk ho)⟩)
            have HRF := Lib.hid (fun wf (hf : Chg T (T + 1) wz wf) => HCUT.out wf (HRZ.out.chg hf (.inr (by omega))) (some ⟨gr, 0, none⟩) (fun h => by omega))
            clear HCZ HRZ HR7 HO7 B7 HCUT
            have y0 : wz.cell? ⟨U, 0, none⟩ = some (.slice X n1 xc) := box_cell YB.out 0 _ rfl
            have y1 : wz.cell? ⟨U, 1, none⟩ = some (.slice (some ⟨gr, 0, none⟩) (n1 - 1) 0) := box_cell YB.out 1 _ rfl
            have y2 : wz.cell? ⟨U, 2, none⟩ = some (.slice C m cc) := box_cell YB.out 2 _ rfl
            have y3 : wz.cell? ⟨U, 3, none⟩ = some (.int .i64 tt) := box_cell YB.out 3 _ rfl
            have tq0 := box_cell TB.out 0 (.slice none 0 0) rfl
            have tq1 := box_cell TB.out 1 (.slice none 0 0) rfl
            have tq2 := box_cell TB.out 2 (.slice none 0 0) rfl
            have tq3 := box_cell TB.out 3 (.int .i64 0) rfl
            have f0 := box_free TB.out 0
            have f1 := box_free TB.out 1
            have f2 := box_free TB.out 2
            have f3 := box_free TB.out 3
            have E0 : wz.drew.cell? ⟨U, 0, none⟩ = some (.slice X n1 xc) ∧ wz.drew.cell? ⟨U, 1, none⟩ = some (.slice (some ⟨gr, 0, none⟩) (n1 - 1) 0) ∧ wz.drew.cell? ⟨U, 2, none⟩ = some (.slice C m cc) ∧ wz.drew.cell? ⟨U, 3, none⟩ = some (.int .i64 tt) := ⟨y0, y1, y2, y3⟩
            have hq9 := (chg4 (w := wz) (g := T) (a := .slice X n1 xc) (b := .slice (some ⟨gr, 0, none⟩) (n1 - 1) 0) (c := .slice C m cc) (d := .int .i64 tt)).drew
            have yw9 := box_chg YB.out hq9 (.inr (by omega))
            have E9 : (((((wz.setCell ⟨T, 0, none⟩ (.slice X n1 xc)).setCell ⟨T, 1, none⟩ (.slice (some ⟨gr, 0, none⟩) (n1 - 1) 0)).setCell ⟨T, 2, none⟩ (.slice C m cc)).setCell ⟨T, 3, none⟩ (.int .i64 tt)).drew).cell? ⟨U, 0, none⟩ = some (.slice X n1 xc) ∧ (((((wz.setCell ⟨T, 0, none⟩ (.slice X n1 xc)).setCell ⟨T, 1, none⟩ (.slice (some ⟨gr, 0, none⟩) (n1 - 1) 0)).setCell ⟨T, 2, none⟩ (.slice C m cc)).setCell ⟨T, 3, none⟩ (.int .i64 tt)).drew).cell? ⟨U, 1, none⟩ = some (.slice (some ⟨gr, 0, none⟩) (n1 - 1) 0) ∧ (((((wz.setCell ⟨T, 0, none⟩ (.slice X n1 xc)).setCell ⟨T, 1, none⟩ (.slice (some ⟨gr, 0, none⟩) (n1 - 1) 0)).setCell ⟨T, 2, none⟩ (.slice C m cc)).setCell ⟨T, 3, none⟩ (.int .i64 tt)).drew).cell? ⟨U, 2, none⟩ = some (.slice C m cc) ∧ (((((wz.setCell ⟨T, 0, none⟩ (.slice X n1 xc)).setCell ⟨T, 1, none⟩ (.slice (some ⟨gr, 0, none⟩) (n1 - 1) 0)).setCell ⟨T, 2, none⟩ (.slice C m cc)).setCell ⟨T, 3, none⟩ (.int .i64 tt)).drew).cell? ⟨U, 3, none⟩ = some (.int .i64 tt) := ⟨box_cell yw9 0 _ rfl, box_cell yw9 1 _ rfl, box_cell yw9 2 _ rfl, box_cell yw9 3 _ rfl⟩
            clear hq9 yw9
            go_region_held3 (fun w' => w'.cell? ⟨U, 0, none⟩ = some (.slice X n1 xc) ∧ w'.cell? ⟨U, 1, none⟩ = some (.slice (some ⟨gr, 0, none⟩) (n1 - 1) 0) ∧ w'.cell? ⟨U, 2, none⟩ = some (.slice C m cc) ∧ w'.cell? ⟨U, 3, none⟩ = some (.int .i64 tt)) (first | with_reducible exact ⟨y0, y1, y2, y3⟩ | with_reducible exact E0 | with_reducible exact E9) (fail)
            clear E0 E9
            clear y0 y1 y2 y3 tq0 tq1 tq2 tq3 f0 f1 f2 f3
            have hx4 := box_drew (box4 (a := .slice X n1 xc) (b := .slice (some ⟨gr, 0, none⟩) (n1 - 1) 0) (c := .slice C m cc) (d := .int .i64 tt) TB.out)
            have hq := (chg4 (w := wz) (g := T) (a := .slice X n1 xc) (b := .slice (some ⟨gr, 0, none⟩) (n1 - 1) 0) (c := .slice C m cc) (d := .int .i64 tt)).drew
            have v0 : (((((wz.setCell ⟨T, 0, none⟩ (.slice X n1 xc)).setCell ⟨T, 1, none⟩ (.slice (some ⟨gr, 0, none⟩) (n1 - 1) 0)).setCell ⟨T, 2, none⟩ (.slice C m cc)).setCell ⟨T, 3, none⟩ (.int .i64 tt)).drew).cell? ⟨T, 0, none⟩ = some (.slice X n1 xc) := box_cell hx4 0 _ rfl
            have v1 : (((((wz.setCell ⟨T, 0, none⟩ (.slice X n1 xc)).setCell ⟨T, 1, none⟩ (.slice (some ⟨gr, 0, none⟩) (n1 - 1) 0)).setCell ⟨T, 2, none⟩ (.slice C m cc)).setCell ⟨T, 3, none⟩ (.int .i64 tt)).drew).cell? ⟨T, 1, none⟩ = some (.slice (some ⟨gr, 0, none⟩) (n1 - 1) 0) := box_cell hx4 1 _ rfl
            have v2 : (((((wz.setCell ⟨T, 0, none⟩ (.slice X n1 xc)).setCell ⟨T, 1, none⟩ (.slice (some ⟨gr, 0, none⟩) (n1 - 1) 0)).setCell ⟨T, 2, none⟩ (.slice C m cc)).setCell ⟨T, 3, none⟩ (.int .i64 tt)).drew).cell? ⟨T, 2, none⟩ = some (.slice C m cc) := box_cell hx4 2 _ rfl
            have v3 : (((((wz.setCell ⟨T, 0, none⟩ (.slice X n1 xc)).setCell ⟨T, 1, none⟩ (.slice (some ⟨gr, 0, none⟩) (n1 - 1) 0)).setCell ⟨T, 2, none⟩ (.slice C m cc)).setCell ⟨T, 3, none⟩ (.int .i64 tt)).drew).cell? ⟨T, 3, none⟩ = some (.int .i64 tt) := box_cell hx4 3 _ rfl
            have HOF := Lib.hid (HOZ.out.chg hq (.inr (by omega))).read
            have HRR := Lib.hid (HRF.out _ hq)
            have HBF := Lib.hid (hq.below HBZ.out (by omega) HBZ.out.size)
            clear hx4 hq TB YB HOZ HRF HBZ
            generalize ((((wz.setCell ⟨T, 0, none⟩ (.slice X n1 xc)).setCell ⟨T, 1, none⟩ (.slice (some ⟨gr, 0, none⟩) (n1 - 1) 0)).setCell ⟨T, 2, none⟩ (.slice C m cc)).setCell ⟨T, 3, none⟩ (.int .i64 tt)).drew = wf at *
            go_wp2
            refine bodyPost_ret (v := .tuple #[.slice A1 n1 c1, .int .i64 b, .agg #[.slice X n1 xc, .slice (some ⟨gr, 0, none⟩) (n1 - 1) 0, .slice C m cc, .int .i64 tt]]) (by simp [results, Try.results19, go_sem, v0, v1, v2, v3]) rfl ?_
            exact ⟨A1, X, (some ⟨gr, 0, none⟩), C, n1, c1, n1, xc, (n1 - 1), 0, m, cc, K, _, _, _, b, tt, rfl, HS, HOF.out, HSM, HRR.out, by omega, by omega, HBF.out⟩
          case inr =>
            have HCZ := Lib.hid ((Chg.refl U (U + 1) w7).set (i := 1) (v := .slice (some ⟨gr, 1, none⟩) (n1 - 1) (rc - 1)) (Nat.le_refl _) (by omega))
            have YBN := Lib.hid (box_set YB.out 1 (.slice (some ⟨gr, 1, none⟩) (n1 - 1) (rc - 1)))
            clear y1 d1 hrc
            generalize w7.setCell ⟨U, 1, none⟩ (.slice (some ⟨gr, 1, none⟩) (n1 - 1) (rc - 1)) = wz at *
            replace YB := YBN
            replace TB := Lib.hid (box_chg TB.out HCZ.out (.inl (by omega)))
            have HOZ := Lib.hid (HO7.out.chg HCZ.out (.inl (by omega)))
            have HRZ := Lib.hid (HR7.out.chg HCZ.out (.inl (by omega)))
            have HBZ := Lib.hid (Chg.to_below (w := w) (lo := T + 1) (hi := T + 1 + 1) (by omega) ⟨HCZ.out.os.trans B7.out.os, HCZ.out.tape.trans B7.out.tape, HCZ.out.output.trans B7.out.output, Nat.le_trans B7.out.size HCZ.out.size, fun k hk ho => (HCZ.out.block k (Nat.lt_of_lt_of_le hk B7.out.size) (.inl (by omega))).trans (B7.out.block k hk ho)⟩)
            have HRF := Lib.hid (fun wf (hf : Chg T (T + 1) wz wf) => HCUT.out wf (HRZ.out.chg hf (.inr (by omega))) (some ⟨gr, 1, none⟩) (fun _ => rfl))
            clear HCZ HRZ HR7 HO7 B7 HCUT
            have y0 : wz.cell? ⟨U, 0, none⟩ = some (.slice X n1 xc) := box_cell YB.out 0 _ rfl
            have y1 : wz.cell? ⟨U, 1, none⟩ = some (.slice (some ⟨gr, 1, none⟩) (n1 - 1) (rc - 1)) := box_cell YB.out 1 _ rfl
            have y2 : wz.cell? ⟨U, 2, none⟩ = some (.slice C m cc) := box_cell YB.out 2 _ rfl
            have y3 : wz.cell? ⟨U, 3, none⟩ = some (.int .i64 tt) := box_cell YB.out 3 _ rfl
            have tq0 := box_cell TB.out 0 (.slice none 0 0) rfl
            have tq1 := box_cell TB.out 1 (.slice none 0 0) rfl
            have tq2 := box_cell TB.out 2 (.slice none 0 0) rfl
            have tq3 := box_cell TB.out 3 (.int .i64 0) rfl
            have f0 := box_free TB.out 0
            have f1 := box_free TB.out 1
            have f2 := box_free TB.out 2
            have f3 := box_free TB.out 3
            have E0 : wz.drew.cell? ⟨U, 0, none⟩ = some (.slice X n1 xc) ∧ wz.drew.cell? ⟨U, 1, none⟩ = some (.slice (some ⟨gr, 1, none⟩) (n1 - 1) (rc - 1)) ∧ wz.drew.cell? ⟨U, 2, none⟩ = some (.slice C m cc) ∧ wz.drew.cell? ⟨U, 3, none⟩ = some (.int .i64 tt) := ⟨y0, y1, y2, y3⟩
            have hq9 := (chg4 (w := wz) (g := T) (a := .slice X n1 xc) (b := .slice (some ⟨gr, 1, none⟩) (n1 - 1) (rc - 1)) (c := .slice C m cc) (d := .int .i64 tt)).drew
            have yw9 := box_chg YB.out hq9 (.inr (by omega))
            have E9 : (((((wz.setCell ⟨T, 0, none⟩ (.slice X n1 xc)).setCell ⟨T, 1, none⟩ (.slice (some ⟨gr, 1, none⟩) (n1 - 1) (rc - 1))).setCell ⟨T, 2, none⟩ (.slice C m cc)).setCell ⟨T, 3, none⟩ (.int .i64 tt)).drew).cell? ⟨U, 0, none⟩ = some (.slice X n1 xc) ∧ (((((wz.setCell ⟨T, 0, none⟩ (.slice X n1 xc)).setCell ⟨T, 1, none⟩ (.slice (some ⟨gr, 1, none⟩) (n1 - 1) (rc - 1))).setCell ⟨T, 2, none⟩ (.slice C m cc)).setCell ⟨T, 3, none⟩ (.int .i64 tt)).drew).cell? ⟨U, 1, none⟩ = some (.slice (some ⟨gr, 1, none⟩) (n1 - 1) (rc - 1)) ∧ (((((wz.setCell ⟨T, 0, none⟩ (.slice X n1 xc)).setCell ⟨T, 1, none⟩ (.slice (some ⟨gr, 1, none⟩) (n1 - 1) (rc - 1))).setCell ⟨T, 2, none⟩ (.slice C m cc)).setCell ⟨T, 3, none⟩ (.int .i64 tt)).drew).cell? ⟨U, 2, none⟩ = some (.slice C m cc) ∧ (((((wz.setCell ⟨T, 0, none⟩ (.slice X n1 xc)).setCell ⟨T, 1, none⟩ (.slice (some ⟨gr, 1, none⟩) (n1 - 1) (rc - 1))).setCell ⟨T, 2, none⟩ (.slice C m cc)).setCell ⟨T, 3, none⟩ (.int .i64 tt)).drew).cell? ⟨U, 3, none⟩ = some (.int .i64 tt) := ⟨box_cell yw9 0 _ rfl, box_cell yw9 1 _ rfl, box_cell yw9 2 _ rfl, box_cell yw9 3 _ rfl⟩
            clear hq9 yw9
            go_region_held3 (fun w' => w'.cell? ⟨U, 0, none⟩ = some (.slice X n1 xc) ∧ w'.cell? ⟨U, 1, none⟩ = some (.slice (some ⟨gr, 1, none⟩) (n1 - 1) (rc - 1)) ∧ w'.cell? ⟨U, 2, none⟩ = some (.slice C m cc) ∧ w'.cell? ⟨U, 3, none⟩ = some (.int .i64 tt)) (first | with_reducible exact ⟨y0, y1, y2, y3⟩ | with_reducible exact E0 | with_reducible exact E9) (fail)
            clear E0 E9
            clear y0 y1 y2 y3 tq0 tq1 tq2 tq3 f0 f1 f2 f3
            have hx4 := box_drew (box4 (a := .slice X n1 xc) (b := .slice (some ⟨gr, 1, none⟩) (n1 - 1) (rc - 1)) (c := .slice C m cc) (d := .int .i64 tt) TB.out)
            have hq := (chg4 (w := wz) (g := T) (a := .slice X n1 xc) (b := .slice (some ⟨gr, 1, none⟩) (n1 - 1) (rc - 1)) (c := .slice C m cc) (d := .int .i64 tt)).drew
            have v0 : (((((wz.setCell ⟨T, 0, none⟩ (.slice X n1 xc)).setCell ⟨T, 1, none⟩ (.slice (some ⟨gr, 1, none⟩) (n1 - 1) (rc - 1))).setCell ⟨T, 2, none⟩ (.slice C m cc)).setCell ⟨T, 3, none⟩ (.int .i64 tt)).drew).cell? ⟨T, 0, none⟩ = some (.slice X n1 xc) := box_cell hx4 0 _ rfl
            have v1 : (((((wz.setCell ⟨T, 0, none⟩ (.slice X n1 xc)).setCell ⟨T, 1, none⟩ (.slice (some ⟨gr, 1, none⟩) (n1 - 1) (rc - 1))).setCell ⟨T, 2, none⟩ (.slice C m cc)).setCell ⟨T, 3, none⟩ (.int .i64 tt)).drew).cell? ⟨T, 1, none⟩ = some (.slice (some ⟨gr, 1, none⟩) (n1 - 1) (rc - 1)) := box_cell hx4 1 _ rfl
            have v2 : (((((wz.setCell ⟨T, 0, none⟩ (.slice X n1 xc)).setCell ⟨T, 1, none⟩ (.slice (some ⟨gr, 1, none⟩) (n1 - 1) (rc - 1))).setCell ⟨T, 2, none⟩ (.slice C m cc)).setCell ⟨T, 3, none⟩ (.int .i64 tt)).drew).cell? ⟨T, 2, none⟩ = some (.slice C m cc) := box_cell hx4 2 _ rfl
            have v3 : (((((wz.setCell ⟨T, 0, none⟩ (.slice X n1 xc)).setCell ⟨T, 1, none⟩ (.slice (some ⟨gr, 1, none⟩) (n1 - 1) (rc - 1))).setCell ⟨T, 2, none⟩ (.slice C m cc)).setCell ⟨T, 3, none⟩ (.int .i64 tt)).drew).cell? ⟨T, 3, none⟩ = some (.int .i64 tt) := box_cell hx4 3 _ rfl
            have HOF := Lib.hid (HOZ.out.chg hq (.inr (by omega))).read
            have HRR := Lib.hid (HRF.out _ hq)
            have HBF := Lib.hid (hq.below HBZ.out (by omega) HBZ.out.size)
            clear hx4 hq TB YB HOZ HRF HBZ
            generalize ((((wz.setCell ⟨T, 0, none⟩ (.slice X n1 xc)).setCell ⟨T, 1, none⟩ (.slice (some ⟨gr, 1, none⟩) (n1 - 1) (rc - 1))).setCell ⟨T, 2, none⟩ (.slice C m cc)).setCell ⟨T, 3, none⟩ (.int .i64 tt)).drew = wf at *
            go_wp2
            refine bodyPost_ret (v := .tuple #[.slice A1 n1 c1, .int .i64 b, .agg #[.slice X n1 xc, .slice (some ⟨gr, 1, none⟩) (n1 - 1) (rc - 1), .slice C m cc, .int .i64 tt]]) (by simp [results, Try.results19, go_sem, v0, v1, v2, v3]) rfl ?_
            exact ⟨A1, X, (some ⟨gr, 1, none⟩), C, n1, c1, n1, xc, (n1 - 1), (rc - 1), m, cc, K, _, _, _, b, tt, rfl, HS, HOF.out, HSM, HRR.out, by omega, by omega, HBF.out⟩
        case neg =>
          have v2E : (v == 2) = false := by rw [beq_eq_false_iff_ne]; exact v2
          by_cases v3 : v = 3
          case pos =>
            subst v3
            have HMX := Lib.hid (matR_of HO7.out.read HSH.out)
            go_wp2_with fail
            refine (oMargins_any n1 m _ _ _ w7 HMX.out hn1 (by omega) hm1 (by omega) (fun i j hi hj => by have := HXB.out i j hi hj; omega)).mono ?_
            rintro e w8 ⟨q0, q1, q2, q3, X2, R2, C2, xc2, rc2, cc2, rfl, ho2, hp2, b8⟩
            obtain ⟨t2, HT2⟩ : ∃ t2, Hid (totS n1 m (fun i j => (K i)[j]?.getD 0) = t2) := ⟨_, Lib.hid rfl⟩
            rw [HT2.out]
            have z8 := b8.size
            have YB8 := Lib.hid (box_below YB.out b8)
            have TB8 := Lib.hid (box_below TB.out b8)
            have HO8 := Lib.hid (HO7.out.below b8)
            have HR8 := Lib.hid (RndO.rnO ho2 hp2)
            have B8 := Lib.hid (B7.out.then_ b8)
            have y0 := box_cell YB8.out 0 (.slice X n1 xc) rfl
            have y1 := box_cell YB8.out 1 (.slice R n1 rc) rfl
            have y2 := box_cell YB8.out 2 (.slice C m cc) rfl
            have y3 := box_cell YB8.out 3 (.int .i64 tt) rfl
            have f0 := box_free YB8.out 0
            have f1 := box_free YB8.out 1
            have f2 := box_free YB8.out 2
            have f3 := box_free YB8.out 3
            have HCZ := Lib.hid (chg4 (w := w8) (g := U) (a := .slice X2 n1 xc2) (b := .slice R2 n1 rc2) (c := .slice C2 m cc2) (d := .int .i64 t2))
            have YBN := Lib.hid (box4 (a := .slice X2 n1 xc2) (b := .slice R2 n1 rc2) (c := .slice C2 m cc2) (d := .int .i64 t2) YB8.out)
            have hUw := lt_of_block YB.out
            clear YB TB HO7 HR7 B7 ho2 hp2 b8
            go_wp2_with fail
            clear y0 y1 y2 y3 f0 f1 f2 f3
            generalize ((((w8.setCell ⟨U, 0, none⟩ (.slice X2 n1 xc2)).setCell ⟨U, 1, none⟩ (.slice R2 n1 rc2)).setCell ⟨U, 2, none⟩ (.slice C2 m cc2)).setCell ⟨U, 3, none⟩ (.int .i64 t2)) = wz at *
            have YB := YBN
            have TB := Lib.hid (box_chg TB8.out HCZ.out (.inl (by omega)))
            have HOZ := Lib.hid (HO8.out.chg HCZ.out (.inl (by omega)))
            have HRZ := Lib.hid (HR8.out.chg HCZ.out (.inr (by omega)))
            have HBZ := Lib.hid (Chg.to_below (w := w) (lo := T + 1) (hi := T + 1 + 1) (by omega) ⟨HCZ.out.os.trans B8.out.os, HCZ.out.tape.trans B8.out.tape, HCZ.out.output.trans B8.out.output, Nat.le_trans B8.out.size HCZ.out.size, fun k hk ho => (HCZ.out.block k (Nat.lt_of_lt_of_le hk B8.out.size) (.inl (by omega))).trans (B8.out.block k hk ho)⟩)
            have HRF := Lib.hid (fun wf (hf : Chg T (T + 1) wz wf) => (HRZ.out.chg hf (.inr (by omega))).read)
            clear HSM
            have HSM : Shrt n1 (fun i => lst m (fun j => (K i)[j]?.getD 0)) := ⟨by omega, fun t ht => by rw [lst_len]; exact hm4⟩
            clear HCZ HRZ HR8 HO8 B8 YB8 TB8 YBN HMX
            have y0 : wz.cell? ⟨U, 0, none⟩ = some (.slice X2 n1 xc2) := box_cell YB.out 0 _ rfl
            have y1 : wz.cell? ⟨U, 1, none⟩ = some (.slice R2 n1 rc2) := box_cell YB.out 1 _ rfl
            have y2 : wz.cell? ⟨U, 2, none⟩ = some (.slice C2 m cc2) := box_cell YB.out 2 _ rfl
            have y3 : wz.cell? ⟨U, 3, none⟩ = some (.int .i64 t2) := box_cell YB.out 3 _ rfl
            have tq0 := box_cell TB.out 0 (.slice none 0 0) rfl
            have tq1 := box_cell TB.out 1 (.slice none 0 0) rfl
            have tq2 := box_cell TB.out 2 (.slice none 0 0) rfl
            have tq3 := box_cell TB.out 3 (.int .i64 0) rfl
            have f0 := box_free TB.out 0
            have f1 := box_free TB.out 1
            have f2 := box_free TB.out 2
            have f3 := box_free TB.out 3
            have E0 : wz.drew.cell? ⟨U, 0, none⟩ = some (.slice X2 n1 xc2) ∧ wz.drew.cell? ⟨U, 1, none⟩ = some (.slice R2 n1 rc2) ∧ wz.drew.cell? ⟨U, 2, none⟩ = some (.slice C2 m cc2) ∧ wz.drew.cell? ⟨U, 3, none⟩ = some (.int .i64 t2) := ⟨y0, y1, y2, y3⟩
            have hq9 := (chg4 (w := wz) (g := T) (a := .slice X2 n1 xc2) (b := .slice R2 n1 rc2) (c := .slice C2 m cc2) (d := .int .i64 t2)).drew
            have yw9 := box_chg YB.out hq9 (.inr (by omega))
            have E9 : (((((wz.setCell ⟨T, 0, none⟩ (.slice X2 n1 xc2)).setCell ⟨T, 1, none⟩ (.slice R2 n1 rc2)).setCell ⟨T, 2, none⟩ (.slice C2 m cc2)).setCell ⟨T, 3, none⟩ (.int .i64 t2)).drew).cell? ⟨U, 0, none⟩ = some (.slice X2 n1 xc2) ∧ (((((wz.setCell ⟨T, 0, none⟩ (.slice X2 n1 xc2)).setCell ⟨T, 1, none⟩ (.slice R2 n1 rc2)).setCell ⟨T, 2, none⟩ (.slice C2 m cc2)).setCell ⟨T, 3, none⟩ (.int .i64 t2)).drew).cell? ⟨U, 1, none⟩ = some (.slice R2 n1 rc2) ∧ (((((wz.setCell ⟨T, 0, none⟩ (.slice X2 n1 xc2)).setCell ⟨T, 1, none⟩ (.slice R2 n1 rc2)).setCell ⟨T, 2, none⟩ (.slice C2 m cc2)).setCell ⟨T, 3, none⟩ (.int .i64 t2)).drew).cell? ⟨U, 2, none⟩ = some (.slice C2 m cc2) ∧ (((((wz.setCell ⟨T, 0, none⟩ (.slice X2 n1 xc2)).setCell ⟨T, 1, none⟩ (.slice R2 n1 rc2)).setCell ⟨T, 2, none⟩ (.slice C2 m cc2)).setCell ⟨T, 3, none⟩ (.int .i64 t2)).drew).cell? ⟨U, 3, none⟩ = some (.int .i64 t2) := ⟨box_cell yw9 0 _ rfl, box_cell yw9 1 _ rfl, box_cell yw9 2 _ rfl, box_cell yw9 3 _ rfl⟩
            clear hq9 yw9
            go_region_held3 (fun w' => w'.cell? ⟨U, 0, none⟩ = some (.slice X2 n1 xc2) ∧ w'.cell? ⟨U, 1, none⟩ = some (.slice R2 n1 rc2) ∧ w'.cell? ⟨U, 2, none⟩ = some (.slice C2 m cc2) ∧ w'.cell? ⟨U, 3, none⟩ = some (.int .i64 t2)) (first | with_reducible exact ⟨y0, y1, y2, y3⟩ | with_reducible exact E0 | with_reducible exact E9) (fail)
            clear E0 E9
            clear y0 y1 y2 y3 tq0 tq1 tq2 tq3 f0 f1 f2 f3
            have hx4 := box_drew (box4 (a := .slice X2 n1 xc2) (b := .slice R2 n1 rc2) (c := .slice C2 m cc2) (d := .int .i64 t2) TB.out)
            have hq := (chg4 (w := wz) (g := T) (a := .slice X2 n1 xc2) (b := .slice R2 n1 rc2) (c := .slice C2 m cc2) (d := .int .i64 t2)).drew
            have v0 : (((((wz.setCell ⟨T, 0, none⟩ (.slice X2 n1 xc2)).setCell ⟨T, 1, none⟩ (.slice R2 n1 rc2)).setCell ⟨T, 2, none⟩ (.slice C2 m cc2)).setCell ⟨T, 3, none⟩ (.int .i64 t2)).drew).cell? ⟨T, 0, none⟩ = some (.slice X2 n1 xc2) := box_cell hx4 0 _ rfl
            have v1 : (((((wz.setCell ⟨T, 0, none⟩ (.slice X2 n1 xc2)).setCell ⟨T, 1, none⟩ (.slice R2 n1 rc2)).setCell ⟨T, 2, none⟩ (.slice C2 m cc2)).setCell ⟨T, 3, none⟩ (.int .i64 t2)).drew).cell? ⟨T, 1, none⟩ = some (.slice R2 n1 rc2) := box_cell hx4 1 _ rfl
            have v2 : (((((wz.setCell ⟨T, 0, none⟩ (.slice X2 n1 xc2)).setCell ⟨T, 1, none⟩ (.slice R2 n1 rc2)).setCell ⟨T, 2, none⟩ (.slice C2 m cc2)).setCell ⟨T, 3, none⟩ (.int .i64 t2)).drew).cell? ⟨T, 2, none⟩ = some (.slice C2 m cc2) := box_cell hx4 2 _ rfl
            have v3 : (((((wz.setCell ⟨T, 0, none⟩ (.slice X2 n1 xc2)).setCell ⟨T, 1, none⟩ (.slice R2 n1 rc2)).setCell ⟨T, 2, none⟩ (.slice C2 m cc2)).setCell ⟨T, 3, none⟩ (.int .i64 t2)).drew).cell? ⟨T, 3, none⟩ = some (.int .i64 t2) := box_cell hx4 3 _ rfl
            have HOF := Lib.hid (HOZ.out.chg hq (.inr (by omega))).read
            have HRR := Lib.hid (HRF.out _ hq)
            have HBF := Lib.hid (hq.below HBZ.out (by omega) HBZ.out.size)
            clear hx4 hq TB YB HOZ HRF HBZ
            generalize ((((wz.setCell ⟨T, 0, none⟩ (.slice X2 n1 xc2)).setCell ⟨T, 1, none⟩ (.slice R2 n1 rc2)).setCell ⟨T, 2, none⟩ (.slice C2 m cc2)).setCell ⟨T, 3, none⟩ (.int .i64 t2)).drew = wf at *
            go_wp2
            refine bodyPost_ret (v := .tuple #[.slice A1 n1 c1, .int .i64 b, .agg #[.slice X2 n1 xc2, .slice R2 n1 rc2, .slice C2 m cc2, .int .i64 t2]]) (by simp [results, Try.results19, go_sem, v0, v1, v2, v3]) rfl ?_
            exact ⟨A1, X2, R2, C2, n1, c1, n1, xc2, n1, rc2, m, cc2, K, _, _, _, b, t2, rfl, HS, HOF.out, HSM, HRR.out, by omega, by omega, HBF.out⟩
          case neg =>
            have v3E : (v == 3) = false := by rw [beq_eq_false_iff_ne]; exact v3
            have HOZ := HO7
            have HBZ := Lib.hid (Chg.to_below (w := w) (lo := T + 1) (hi := T + 1 + 1) (by omega) B7.out)
            have HRF := Lib.hid (fun wf (hf : Chg T (T + 1) w7 wf) => (HR7.out.chg hf (.inr (by omega))).read)
            clear HR7 HO7 B7
            obtain ⟨wz, rfl⟩ : ∃ wz : World, wz = w7 := ⟨_, rfl⟩
            go_wp2_with fail
            have y0 : wz.cell? ⟨U, 0, none⟩ = some (.slice X n1 xc) := box_cell YB.out 0 _ rfl
            have y1 : wz.cell? ⟨U, 1, none⟩ = some (.slice R n1 rc) := box_cell YB.out 1 _ rfl
            have y2 : wz.cell? ⟨U, 2, none⟩ = some (.slice C m cc) := box_cell YB.out 2 _ rfl
            have y3 : wz.cell? ⟨U, 3, none⟩ = some (.int .i64 tt) := box_cell YB.out 3 _ rfl
            have tq0 := box_cell TB.out 0 (.slice none 0 0) rfl
            have tq1 := box_cell TB.out 1 (.slice none 0 0) rfl
            have tq2 := box_cell TB.out 2 (.slice none 0 0) rfl
            have tq3 := box_cell TB.out 3 (.int .i64 0) rfl
            have f0 := box_free TB.out 0
            have f1 := box_free TB.out 1
            have f2 := box_free TB.out 2
            have f3 := box_free TB.out 3
            have E0 : wz.drew.cell? ⟨U, 0, none⟩ = some (.slice X n1 xc) ∧ wz.drew.cell? ⟨U, 1, none⟩ = some (.slice R n1 rc) ∧ wz.drew.cell? ⟨U, 2, none⟩ = some (.slice C m cc) ∧ wz.drew.cell? ⟨U, 3, none⟩ = some (.int .i64 tt) := ⟨y0, y1, y2, y3⟩
            have hq9 := (chg4 (w := wz) (g := T) (a := .slice X n1 xc) (b := .slice R n1 rc) (c := .slice C m cc) (d := .int .i64 tt)).drew
            have yw9 := box_chg YB.out hq9 (.inr (by omega))
            have E9 : (((((wz.setCell ⟨T, 0, none⟩ (.slice X n1 xc)).setCell ⟨T, 1, none⟩ (.slice R n1 rc)).setCell ⟨T, 2, none⟩ (.slice C m cc)).setCell ⟨T, 3, none⟩ (.int .i64 tt)).drew).cell? ⟨U, 0, none⟩ = some (.slice X n1 xc) ∧ (((((wz.setCell ⟨T, 0, none⟩ (.slice X n1 xc)).setCell ⟨T, 1, none⟩ (.slice R n1 rc)).setCell ⟨T, 2, none⟩ (.slice C m cc)).setCell ⟨T, 3, none⟩ (.int .i64 tt)).drew).cell? ⟨U, 1, none⟩ = some (.slice R n1 rc) ∧ (((((wz.setCell ⟨T, 0, none⟩ (.slice X n1 xc)).setCell ⟨T, 1, none⟩ (.slice R n1 rc)).setCell ⟨T, 2, none⟩ (.slice C m cc)).setCell ⟨T, 3, none⟩ (.int .i64 tt)).drew).cell? ⟨U, 2, none⟩ = some (.slice C m cc) ∧ (((((wz.setCell ⟨T, 0, none⟩ (.slice X n1 xc)).setCell ⟨T, 1, none⟩ (.slice R n1 rc)).setCell ⟨T, 2, none⟩ (.slice C m cc)).setCell ⟨T, 3, none⟩ (.int .i64 tt)).drew).cell? ⟨U, 3, none⟩ = some (.int .i64 tt) := ⟨box_cell yw9 0 _ rfl, box_cell yw9 1 _ rfl, box_cell yw9 2 _ rfl, box_cell yw9 3 _ rfl⟩
            clear hq9 yw9
            go_region_held3 (fun w' => w'.cell? ⟨U, 0, none⟩ = some (.slice X n1 xc) ∧ w'.cell? ⟨U, 1, none⟩ = some (.slice R n1 rc) ∧ w'.cell? ⟨U, 2, none⟩ = some (.slice C m cc) ∧ w'.cell? ⟨U, 3, none⟩ = some (.int .i64 tt)) (first | with_reducible exact ⟨y0, y1, y2, y3⟩ | with_reducible exact E0 | with_reducible exact E9) (fail)
            clear E0 E9
            clear y0 y1 y2 y3 tq0 tq1 tq2 tq3 f0 f1 f2 f3
            have hx4 := box_drew (box4 (a := .slice X n1 xc) (b := .slice R n1 rc) (c := .slice C m cc) (d := .int .i64 tt) TB.out)
            have hq := (chg4 (w := wz) (g := T) (a := .slice X n1 xc) (b := .slice R n1 rc) (c := .slice C m cc) (d := .int .i64 tt)).drew
            have v0 : (((((wz.setCell ⟨T, 0, none⟩ (.slice X n1 xc)).setCell ⟨T, 1, none⟩ (.slice R n1 rc)).setCell ⟨T, 2, none⟩ (.slice C m cc)).setCell ⟨T, 3, none⟩ (.int .i64 tt)).drew).cell? ⟨T, 0, none⟩ = some (.slice X n1 xc) := box_cell hx4 0 _ rfl
            have v1 : (((((wz.setCell ⟨T, 0, none⟩ (.slice X n1 xc)).setCell ⟨T, 1, none⟩ (.slice R n1 rc)).setCell ⟨T, 2, none⟩ (.slice C m cc)).setCell ⟨T, 3, none⟩ (.int .i64 tt)).drew).cell? ⟨T, 1, none⟩ = some (.slice R n1 rc) := box_cell hx4 1 _ rfl
            have v2 : (((((wz.setCell ⟨T, 0, none⟩ (.slice X n1 xc)).setCell ⟨T, 1, none⟩ (.slice R n1 rc)).setCell ⟨T, 2, none⟩ (.slice C m cc)).setCell ⟨T, 3, none⟩ (.int .i64 tt)).drew).cell? ⟨T, 2, none⟩ = some (.slice C m cc) := box_cell hx4 2 _ rfl
            have v3 : (((((wz.setCell ⟨T, 0, none⟩ (.slice X n1 xc)).setCell ⟨T, 1, none⟩ (.slice R n1 rc)).setCell ⟨T, 2, none⟩ (.slice C m cc)).setCell ⟨T, 3, none⟩ (.int .i64 tt)).drew).cell? ⟨T, 3, none⟩ = some (.int .i64 tt) := box_cell hx4 3 _ rfl
            have HOF := Lib.hid (HOZ.out.chg hq (.inr (by omega))).read
            have HRR := Lib.hid (HRF.out _ hq)
            have HBF := Lib.hid (hq.below HBZ.out (by omega) HBZ.out.size)
            clear hx4 hq TB YB HOZ HRF HBZ
            generalize ((((wz.setCell ⟨T, 0, none⟩ (.slice X n1 xc)).setCell ⟨T, 1, none⟩ (.slice R n1 rc)).setCell ⟨T, 2, none⟩ (.slice C m cc)).setCell ⟨T, 3, none⟩ (.int .i64 tt)).drew = wf at *
            go_wp2
            refine bodyPost_ret (v := .tuple #[.slice A1 n1 c1, .int .i64 b, .agg #[.slice X n1 xc, .slice R n1 rc, .slice C m cc, .int .i64 tt]]) (by simp [results, Try.results19, go_sem, v0, v1, v2, v3]) rfl ?_
            exact ⟨A1, X, R, C, n1, c1, n1, xc, n1, rc, m, cc, K, _, _, _, b, tt, rfl, HS, HOF.out, HSM, HRR.out, by omega, by omega, HBF.out⟩
end Go.Proofs.Ytcjmapdeopffcaa
