/- The laws' marking of tables, geographies, servers; printed by gmk.py. -/
import Derived.Test.YtfanpbfmnckmnaaGreatTlC
namespace Go.Proofs.YtfanpbfmnckmnaaGreat
open Go.RowKit

theorem Sub.farGrown {w w' : World} {lo hi : Nat} {ys : List Value} {st pos : Nat} {L : Nat → List Int} {k n : Nat} {V : Option Addr} (h : Sub w lo hi ys st pos L k n) (hg : w.grownBy w' (rowOf V)) (hne : ∀ t, k ≤ t → t < n → ∀ b, (ys[t * st + pos]?).bind Value.ownBlock = some b → rowOf V ≠ some b) : Sub w' lo hi ys st pos L k n :=
  ⟨fun j h1 h2 => by
    obtain ⟨V3, c3, e3, ho3⟩ := h.row j h1 h2
    refine ⟨V3, c3, e3, ⟨ho3.own.far hg (fun g hA e => ?_), ho3.top, ho3.small⟩⟩
    exact hne j h1 h2 g (by rw [e3, hA]; rfl) e, h.apart⟩
theorem set_keep {ys : List Value} {j p t q : Nat} {v : Value} (hp : p < 4) (hq : q < 4) (h : p ≠ q) : (ys.set (j * 4 + p) v)[t * 4 + q]? = ys[t * 4 + q]? := List.getElem?_set_ne (by omega)
/-- Behind a store into the row of tables, at the level or at the sum. -/
theorem tabs_put {w : World} {lo hi n c g j p k : Nat} {ts : List TabD} {ys : List Value} {v : Value} (hp : p = 0 ∨ p = 3) (ho : w.ownsRow lo 56 4 (.slice (some ⟨g, 0, none⟩) n c) n ys) (h1 : Sub w lo hi ys 4 1 (tV ts) k n) {k2 : Nat} (h2 : Sub w lo hi ys 4 2 (tW ts) k2 n) (hc : CrossT ys n) :
    (w.setCell ⟨g, j * 4 + p, none⟩ v).ownsRow lo 56 4 (.slice (some ⟨g, 0, none⟩) n c) n (ys.set (j * 4 + p) v) ∧ Sub (w.setCell ⟨g, j * 4 + p, none⟩ v) lo hi (ys.set (j * 4 + p) v) 4 1 (tV ts) k n ∧ Sub (w.setCell ⟨g, j * 4 + p, none⟩ v) lo hi (ys.set (j * 4 + p) v) 4 2 (tW ts) k2 n ∧ CrossT (ys.set (j * 4 + p) v) n := by
  have e1 : ∀ t, (ys.set (j * 4 + p) v)[t * 4 + 1]? = ys[t * 4 + 1]? := fun t => set_keep (by omega) (by omega) (by omega)
  have e2 : ∀ t, (ys.set (j * 4 + p) v)[t * 4 + 2]? = ys[t * 4 + 2]? := fun t => set_keep (by omega) (by omega) (by omega)
  exact ⟨(World.ownsRow.stored ho (j * 4 + p) v).1, (h1.farRow ho (by decide)).cells fun t _ _ => e1 t, (h2.farRow ho (by decide)).cells fun t _ _ => e2 t, hc.cells (fun t _ => e1 t) (fun t _ => e2 t)⟩
/-- Behind the marking of a row of variables. -/
theorem tabs_markV {w w' : World} {lo hi n c g j m d : Nat} {V : Option Addr} {ts : List TabD} {ys : List Value} (hj : j < n) (ho : w.ownsRow lo 56 4 (.slice (some ⟨g, 0, none⟩) n c) n ys) (h1 : Sub w lo hi ys 4 1 (tV ts) j n) (h2 : Sub w lo hi ys 4 2 (tW ts) j n) (hc : CrossT ys n) (hV : ys[j * 4 + 1]? = some (.slice V m d)) (hv : Own w lo V m d (tV ts j)) (hg : w.grownBy w' (rowOf V)) :
    w'.ownsRow lo 56 4 (.slice (some ⟨g, 0, none⟩) n c) n ys ∧ Sub w' lo hi ys 4 1 (tV ts) (j + 1) n ∧ Sub w' lo hi ys 4 2 (tW ts) j n :=
  ⟨World.ownsRow.kept ho hg (.inr (fun e => row_ne hv ho (by decide) e.symm)), h1.mark hj hV hg, h2.farGrown hg fun t h3 h4 b hb e => hc j t b hj h4 (by rw [hV]; simpa [ownBlock_rowOf] using e) hb⟩
theorem tabs_markU {w w' : World} {lo hi n c g j m d : Nat} {U : Option Addr} {ts : List TabD} {ys : List Value} (hj : j < n) (ho : w.ownsRow lo 56 4 (.slice (some ⟨g, 0, none⟩) n c) n ys) (h1 : Sub w lo hi ys 4 1 (tV ts) (j + 1) n) (h2 : Sub w lo hi ys 4 2 (tW ts) j n) (hc : CrossT ys n) (hU : ys[j * 4 + 2]? = some (.slice U m d)) (hu : Own w lo U m d (tW ts j)) (hg : w.grownBy w' (rowOf U)) :
    w'.ownsRow lo 56 4 (.slice (some ⟨g, 0, none⟩) n c) n ys ∧ Sub w' lo hi ys 4 1 (tV ts) (j + 1) n ∧ Sub w' lo hi ys 4 2 (tW ts) (j + 1) n :=
  ⟨World.ownsRow.kept ho hg (.inr (fun e => row_ne hu ho (by decide) e.symm)), h1.farGrown hg fun t h3 h4 b hb e => hc t j b h4 hj hb (by rw [hU]; simpa [ownBlock_rowOf] using e), h2.mark hj hU hg⟩
theorem sub_head {w : World} {lo hi : Nat} {ys : List Value} {pos : Nat} {L : Nat → List Int} {j n : Nat} (h : Sub w lo hi ys 4 pos L j n) (hj : j < n) : ∃ V c, ys[j * 4 + pos]? = some (.slice V (L j).length c) ∧ OwnI w lo hi V (L j).length c (L j) := h.row j (Nat.le_refl _) hj

set_option maxRecDepth 100000 in
set_option maxHeartbeats 1600000 in
theorem markTableS_law (A : Option Addr) (lo hi n c : Nat) (k0 : Int) (ts : List TabD) (w : World) (hx : OwnTs w lo hi A n c ts) (hn : n ≤ 1048576) (hs : ∀ j, j < n → (tX ts j).vars.length ≤ 1048576 ∧ (tX ts j).wh.length ≤ 1048576) (h0 : 0 ≤ k0) (h1 : k0 ≤ 2305843009213693952) :
    Calls Tryz.prog 82 #[.slice A n c, .int .i64 k0] w fun e w' => (∃ r, e = .returned (.int .i64 r) ∧ k0 ≤ r ∧ r ≤ k0 + 2199025352704) ∧ Chg lo hi w w' := by
  have htop := hx.top
  obtain ⟨y0, hown, _, hsub1, hsub2, hcr⟩ := hx.cells
  clear hx
  have HSL := Lib.hid hs
  clear hs
  go_enter Tryz.func82, Tryz.ntmps82
  go_wp2
  go_loopw [1, 5] (fun a i wr => ∃ (j : Nat) (r : Int) (ys : List Value), j ≤ n ∧ i = .int .i64 j ∧ a = .int .i64 r ∧ k0 ≤ r ∧ r ≤ k0 + 2097154 * j ∧ wr.ownsRow lo 56 4 (.slice A n c) n ys ∧ Sub wr lo hi ys 4 1 (tV ts) j n ∧ Sub wr lo hi ys 4 2 (tW ts) j n ∧ CrossT ys n ∧ Chg lo hi w wr) (fun _ i _ => n - (intOf i).toNat)
  case atStart => exact ⟨0, k0, y0, Nat.zero_le _, rfl, rfl, by omega, by omega, hown, hsub1, hsub2, hcr, Chg.refl _ _ _⟩
  case round =>
    clear hown hsub1 hsub2 hcr
    obtain ⟨j, r, ys, hj, rfl, rfl, hr0, hr1, hown, hsub1, hsub2, hcr, hbw⟩ := hrel
    by_cases hjn : j < n
    · obtain ⟨g, rfl, hlg, hgs⟩ := row_head hown (by omega)
      have hgh := htop g rfl
      obtain ⟨⟨u0, hu0⟩, -, -, -, hf0, -, -, -⟩ := row_four hown hjn
      obtain ⟨a1, s1, s2, x1⟩ := tabs_put (j := j) (p := 0) (v := .int .i64 r) (.inl rfl) hown hsub1 hsub2 hcr
      have c2 := hbw.set (i := j * 4) (v := .int .i64 r) hlg hgh
      obtain ⟨V, cv, e1, hV⟩ := sub_head s1 hjn
      have hm := (HSL.out j hjn).1
      have hk := (HSL.out j hjn).2
      have HM := Lib.hid (show (tV ts j).length = (tX ts j).vars.length from rfl)
      have HK := Lib.hid (show (tW ts j).length = (tX ts j).wh.length from rfl)
      rw [← HM.out] at hm
      rw [← HK.out] at hk
      clear HM HK
      have hc1 : wr.cell? ⟨g, j * 4 + 1, none⟩ = some (.slice V (tV ts j).length cv) := by
        have e1' : ys[j * 4 + 1]? = some (.slice V (tV ts j).length cv) := by rw [← e1]; exact (set_keep (p := 0) (by omega) (by omega) (by omega)).symm
        exact (World.ownsRow.cellAt hown (j * 4 + 1) (by have := hown.1; omega)).trans e1'
      have A1 := Lib.hid a1
      have S1 := Lib.hid s1
      have S2 := Lib.hid s2
      have X1 := Lib.hid x1
      have E1 := Lib.hid e1
      have HV := Lib.hid hV
      have C2 := Lib.hid c2
      clear hown hsub1 hsub2 hcr hbw a1 s1 s2 x1 e1 hV c2
      go_wp2_with fail
      clear hu0 hf0 hc1
      generalize wr.setCell ⟨g, j * 4, none⟩ (.int .i64 r) = w1 at *
      refine (markIntS_any V lo (tV ts j).length cv (r + 1) (tV ts j) _ HV.out.own (by omega) (by omega) (by omega)).mono ?_
      rintro e w3 ⟨rfl, _, hg3⟩
      obtain ⟨a3, t1, t2⟩ := tabs_markV hjn A1.out S1.out S2.out X1.out E1.out HV.out.own hg3
      have c3 := C2.out.trans (Chg.of_grown hg3 HV.out.row)
      obtain ⟨U, cu, e2, hU⟩ := sub_head t2 hjn
      have hc2 : w3.cell? ⟨g, j * 4 + 2, none⟩ = some (.slice U (tW ts j).length cu) := (World.ownsRow.cellAt a3 (j * 4 + 2) (by have := a3.1; omega)).trans e2
      have A3 := Lib.hid a3
      have T1 := Lib.hid t1
      have T2 := Lib.hid t2
      have E2 := Lib.hid e2
      have HU := Lib.hid hU
      have C3 := Lib.hid c3
      clear hg3 a3 t1 t2 e2 hU c3 A1 S1 S2 E1 HV C2
      generalize (tV ts j).length = m at *
      go_wp2_with fail
      clear hc2
      refine (markIntS_any U lo (tW ts j).length cu (r + 1 + m) (tW ts j) _ HU.out.own (by omega) (by omega) (by omega)).mono ?_
      rintro e w4 ⟨rfl, _, hg4⟩
      obtain ⟨a4, v1, v2⟩ := tabs_markU hjn A3.out T1.out T2.out X1.out E2.out HU.out.own hg4
      have c4 := C3.out.trans (Chg.of_grown hg4 HU.out.row)
      obtain ⟨-, -, -, ⟨u3, hu3⟩, -, -, -, hf3⟩ := row_four a4 hjn
      generalize (tW ts j).length = k at *
      obtain ⟨a5, z1, z2, z3⟩ := tabs_put (j := j) (p := 3) (v := .int .i64 (r + 1 + m + k)) (.inr rfl) a4 v1 v2 X1.out
      have c5 := c4.set (i := j * 4 + 3) (v := .int .i64 (r + 1 + m + k)) hlg hgh
      have A5 := Lib.hid a5
      have Z1 := Lib.hid z1
      have Z2 := Lib.hid z2
      have Z3 := Lib.hid z3
      have C5 := Lib.hid c5
      clear hg4 a4 v1 v2 c4 a5 z1 z2 z3 c5 A3 T1 T2 E2 HU C3 X1
      go_wp2
      go_roundw
      case rel => exact ⟨j + 1, r + 1 + m + k + 1, _, by omega, by go_num, rfl, by omega, by omega, A5.out, Z1.out, Z2.out, Z3.out, C5.out⟩
      case measure => simp [intOf]; omega
    · obtain rfl : j = n := by omega
      go_wp2
      go_ret
      exact ⟨⟨r, rfl, by omega, by omega⟩, hbw⟩

set_option maxHeartbeats 800000 in
theorem markGeo_any (A : Option Addr) (lo hi n c : Nat) (k0 : Int) (xs : List Int) (w : World) (hx : OwnI w lo hi A n c xs) (h0 : 0 ≤ k0) (h1 : k0 ≤ 4611686018427387904) :
    Calls Tryz.prog 79 #[.agg #[.slice A n c], .int .i64 k0] w fun e w' => e = .returned (.int .i64 (k0 + n)) ∧ Chg lo hi w w' := by
  have b0 := below_new w (.cells #[.slice A n c] 36)
  have HX := Lib.hid (hx.below b0)
  have HC := Lib.hid ((Chg.refl lo hi w).then_ b0)
  have hn := hx.small
  clear b0 hx
  go_enter Tryz.func79, Tryz.ntmps79
  go_wp2_with fail
  generalize w.alloc (.cells #[.slice A n c] 36) = w0 at *
  refine (markIntS_any A lo n c k0 xs _ HX.out.own hn h0 h1).mono ?_
  rintro e w1 ⟨rfl, _, hg⟩
  have HC1 := Lib.hid (HC.out.trans (Chg.of_grown hg HX.out.row))
  clear hg
  go_wp2
  go_ret
  exact ⟨rfl, HC1.out⟩

set_option maxRecDepth 100000 in
set_option maxHeartbeats 2000000 in
theorem markServer_law (P A Z Y Q : Option Addr) (g cg n c m cm p cp q cq : Nat) (D : SvD) (lo hi : Nat) (k0 : Int) (w : World) (h : OwnSv w lo hi P A Z Y Q g cg n c m cm p cp q cq D) (hb : SvBd 1048576 g n m p q D) (hh : hi ≤ w.heap.size) (h0 : 0 ≤ k0) (h1 : k0 ≤ 1152921504606846976) :
    Calls Tryz.prog 28 #[.agg #[.slice P g cg, .slice A n c, .slice Z m cm, .slice Y p cp, .int .i64 D.cost.a, .int .i64 D.cost.b, .int .i64 D.cost.c, .int .i64 D.cost.d, .int .i64 D.bud.a, .int .i64 D.bud.b, .int .i64 D.bud.c, .int .i64 D.bud.d, .int .i64 D.floor, .slice Q q cq], .int .i64 k0] w fun e w' => (∃ r, e = .returned (.int .i64 r) ∧ k0 ≤ r ∧ r ≤ k0 + 6000000000000) ∧ Chg lo hi w w' := by
  obtain ⟨m1, m2, m3, m4, m5, i1, i2, i3, i4, i5, i6, o1, o2, o3, o4, o5⟩ := h.own
  have HBD := Lib.hid hb
  have hg0 := hb.bg
  have hn0 := hb.bn
  have hm0 := hb.bm
  have hp0 := hb.bp
  have hq0 := hb.bq
  have b0 := below_new w (.cells #[.slice P g cg, .slice A n c, .slice Z m cm, .slice Y p cp, .int .i64 D.cost.a, .int .i64 D.cost.b, .int .i64 D.cost.c, .int .i64 D.cost.d, .int .i64 D.bud.a, .int .i64 D.bud.b, .int .i64 D.bud.c, .int .i64 D.bud.d, .int .i64 D.floor, .slice Q q cq] 44)
  have Xs := Lib.hid (box_new w #[.slice P g cg, .slice A n c, .slice Z m cm, .slice Y p cp, .int .i64 D.cost.a, .int .i64 D.cost.b, .int .i64 D.cost.c, .int .i64 D.cost.d, .int .i64 D.bud.a, .int .i64 D.bud.b, .int .i64 D.bud.c, .int .i64 D.bud.d, .int .i64 D.floor, .slice Q q cq] 44)
  have HC := Lib.hid ((Chg.refl lo hi w).then_ b0)
  have hz := b0.size
  replace o1 := Lib.hid (o1.below b0)
  replace o2 := Lib.hid (o2.below b0)
  replace o3 := Lib.hid (o3.below b0)
  replace o4 := Lib.hid (o4.below b0)
  replace o5 := Lib.hid (o5.below b0)
  clear b0 h hb
  go_enter Tryz.func28, Tryz.ntmps28
  have ls := lt_of_block Xs.out
  have cs0 := box_cell Xs.out 0 _ rfl
  go_wp2_with fail
  clear ls cs0
  have hs0 : w.heap.size ≤ (w.alloc (.cells #[.slice P g cg, .slice A n c, .slice Z m cm, .slice Y p cp, .int .i64 D.cost.a, .int .i64 D.cost.b, .int .i64 D.cost.c, .int .i64 D.cost.d, .int .i64 D.bud.a, .int .i64 D.bud.b, .int .i64 D.bud.c, .int .i64 D.bud.d, .int .i64 D.floor, .slice Q q cq] 44)).heap.size := by simp
  generalize w.alloc (.cells #[.slice P g cg, .slice A n c, .slice Z m cm, .slice Y p cp, .int .i64 D.cost.a, .int .i64 D.cost.b, .int .i64 D.cost.c, .int .i64 D.cost.d, .int .i64 D.bud.a, .int .i64 D.bud.b, .int .i64 D.bud.c, .int .i64 D.bud.d, .int .i64 D.floor, .slice Q q cq] 44) = w0 at *
  refine (markGeo_any P lo m1 g cg k0 D.par _ o1.out h0 (by omega)).mono ?_
  rintro e w1 ⟨rfl, kc⟩
  obtain ⟨r1, hr1⟩ : ∃ r1 : Int, k0 + (g : Int) = r1 := ⟨_, rfl⟩
  have f1 : k0 ≤ r1 ∧ r1 ≤ k0 + 1048576 := by omega
  rw [hr1]
  clear hr1
  replace o2 := Lib.hid (o2.out.chg kc (.inr (by omega)))
  replace o3 := Lib.hid (o3.out.chg kc (.inr (by omega)))
  replace o4 := Lib.hid (o4.out.chg kc (.inr (by omega)))
  replace o5 := Lib.hid (o5.out.chg kc (.inr (by omega)))
  have kd : Chg lo hi w0 w1 := kc.mono (by omega) (by omega)
  have lx := lt_of_block Xs.out
  replace Xs := Lib.hid ((kc.block w.heap.size lx (.inr (by omega))).trans Xs.out)
  replace HC := Lib.hid (HC.out.trans kd)
  clear kc kd lx o1
  have ls := lt_of_block Xs.out
  have cs1 := box_cell Xs.out 1 _ rfl
  go_wp2_with fail
  clear ls cs1
  refine (markVariableS_law A m1 m2 n c r1 D.vs _ o2.out (by omega) (by omega)).mono ?_
  rintro e w2 ⟨rfl, kc⟩
  obtain ⟨r2, hr2⟩ : ∃ r2 : Int, r1 + 2 * (n : Int) = r2 := ⟨_, rfl⟩
  have f2 : r1 ≤ r2 ∧ r2 ≤ r1 + 2097152 := by omega
  rw [hr2]
  clear hr2
  replace o3 := Lib.hid (o3.out.chg kc (.inr (by omega)))
  replace o4 := Lib.hid (o4.out.chg kc (.inr (by omega)))
  replace o5 := Lib.hid (o5.out.chg kc (.inr (by omega)))
  have kd : Chg lo hi w1 w2 := kc.mono (by omega) (by omega)
  have lx := lt_of_block Xs.out
  replace Xs := Lib.hid ((kc.block w.heap.size lx (.inr (by omega))).trans Xs.out)
  replace HC := Lib.hid (HC.out.trans kd)
  clear kc kd lx o2
  have ls := lt_of_block Xs.out
  have cs2 := box_cell Xs.out 2 _ rfl
  go_wp2_with fail
  clear ls cs2
  refine (markRecordS_law Z m2 m3 m cm r2 D.rs _ o3.out hm0 (fun j hj => HBD.out.rs j hj) (by omega) (by omega)).mono ?_
  rintro e w3 ⟨⟨r3, rfl, x3, y3⟩, kc⟩
  replace o4 := Lib.hid (o4.out.chg kc (.inr (by omega)))
  replace o5 := Lib.hid (o5.out.chg kc (.inr (by omega)))
  have kd : Chg lo hi w2 w3 := kc.mono (by omega) (by omega)
  have lx := lt_of_block Xs.out
  replace Xs := Lib.hid ((kc.block w.heap.size lx (.inr (by omega))).trans Xs.out)
  replace HC := Lib.hid (HC.out.trans kd)
  clear kc kd lx o3
  have ls := lt_of_block Xs.out
  have cs3 := box_cell Xs.out 3 _ rfl
  go_wp2_with fail
  clear ls cs3
  refine (markTableS_law Y m3 m4 p cp r3 D.plan _ o4.out hp0 (fun j hj => HBD.out.plan j hj) (by omega) (by omega)).mono ?_
  rintro e w4 ⟨⟨r4, rfl, x4, y4⟩, kc⟩
  replace o5 := Lib.hid (o5.out.chg kc (.inr (by omega)))
  have kd : Chg lo hi w3 w4 := kc.mono (by omega) (by omega)
  have lx := lt_of_block Xs.out
  replace Xs := Lib.hid ((kc.block w.heap.size lx (.inr (by omega))).trans Xs.out)
  replace HC := Lib.hid (HC.out.trans kd)
  clear kc kd lx o4
  have ls := lt_of_block Xs.out
  have cs13 := box_cell Xs.out 13 _ rfl
  go_wp2_with fail
  clear ls cs13
  refine (markTableS_law Q m5 hi q cq r4 D.asked _ o5.out hq0 (fun j hj => HBD.out.asked j hj) (by omega) (by omega)).mono ?_
  rintro e w5 ⟨⟨r5, rfl, x5, y5⟩, kc⟩
  have kd : Chg lo hi w4 w5 := kc.mono (by omega) (by omega)
  have lx := lt_of_block Xs.out
  replace Xs := Lib.hid ((kc.block w.heap.size lx (.inr (by omega))).trans Xs.out)
  replace HC := Lib.hid (HC.out.trans kd)
  clear kc kd lx o5
  go_wp2
  go_ret
  exact ⟨⟨r5, rfl, by omega, by omega⟩, HC.out⟩
end Go.Proofs.YtfanpbfmnckmnaaGreat
