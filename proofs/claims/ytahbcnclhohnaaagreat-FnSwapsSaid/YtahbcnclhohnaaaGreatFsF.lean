/- ApplySwaps of the program, at valid data and pairs; printed by gff.py. -/
import Derived.Test.YtahbcnclhohnaaaGreatFsC
import Derived.Test.YtahbcnclhohnaaaGreatFsR
namespace Go.Proofs.YtahbcnclhohnaaaGreat
open Go.RowKit

theorem OwnI.farS {w : World} {lo g i : Nat} {V : Option Addr} {mv cv : Nat} {xs : List Int} {v : Value} (h : OwnI w lo w.heap.size V mv cv xs) (hg : rowOf V ≠ some g) : OwnI (w.setCell ⟨g, i, none⟩ v) lo (w.setCell ⟨g, i, none⟩ v).heap.size V mv cv xs :=
  OwnI.fit ⟨h.own.keep fun q hA _ => Below.heap_setCell w ⟨g, i, none⟩ v q (fun e => hg (by rw [hA]; simp only [rowOf]; rw [e])), h.top, h.small⟩ (Nat.le_refl _)
theorem far3S {w : World} {g i j k q : Nat} {u v t : Value} {o : Obj} (h : w.heap[q]? = some o) (hne : q ≠ g) : (((w.setCell ⟨g, i, none⟩ u).setCell ⟨g, j, none⟩ v).setCell ⟨g, k, none⟩ t).heap[q]? = some o :=
  (Below.heap_setCell _ ⟨g, k, none⟩ t q hne).trans ((Below.heap_setCell _ ⟨g, j, none⟩ v q hne).trans ((Below.heap_setCell _ ⟨g, i, none⟩ u q hne).trans h))
theorem cell_far {w : World} {g i : Nat} {p : Addr} {u v' : Value} (h : w.cell? p = some v') (hne : p.block ≠ g) : (w.setCell ⟨g, i, none⟩ u).cell? p = some v' := by
  rw [World.cell?_of_block (w := w) (w' := w.setCell ⟨g, i, none⟩ u) (a := p) (Below.heap_setCell w ⟨g, i, none⟩ u p.block hne)]
  exact h
theorem below3S {w0 w : World} {B g i j k : Nat} {u v t : Value} (h : Below B w0 w) (hg : B ≤ g) : Below B w0 (((w.setCell ⟨g, i, none⟩ u).setCell ⟨g, j, none⟩ v).setCell ⟨g, k, none⟩ t) := ((h.setCell (by exact hg) _).setCell (by exact hg) _).setCell (by exact hg) _
theorem DRc.at_ {w : World} {lo n c j : Nat} {A : Option Addr} {rs : List RecD} (h : DRc w lo A n c rs) (hj : j < n) : ∃ g, A = some ⟨g, 0, none⟩ ∧ lo ≤ g ∧ g < w.heap.size ∧ ∃ (V : Option Addr) (m cv : Nat), w.cell? ⟨g, j * 3, none⟩ = some (.int .i64 (rA rs j)) ∧ w.cell? ⟨g, j * 3 + 1, none⟩ = some (.int .i64 (rH rs j)) ∧ w.cell? ⟨g, j * 3 + 2, none⟩ = some (.slice V m cv) ∧ OwnI w lo w.heap.size V m cv (rV rs j) := by
  obtain ⟨ys, ho, h2⟩ := h.cells
  obtain ⟨g, rfl, _, _⟩ := row_head ho (show 0 < n by omega)
  have hl := ho.1
  obtain ⟨V, m, cv, e0, e1, e2, hv⟩ := h2 j hj
  exact ⟨g, rfl, (Go.Proofs.YtahbcnclhohnaaaGreat.row_ge ho g rfl).1, (Go.Proofs.YtahbcnclhohnaaaGreat.row_ge ho g rfl).2, V, m, cv, (World.ownsRow.cellAt ho (j * 3) (by omega)).trans e0, (World.ownsRow.cellAt ho (j * 3 + 1) (by omega)).trans e1, (World.ownsRow.cellAt ho (j * 3 + 2) (by omega)).trans e2, hv⟩

set_option maxRecDepth 100000 in
set_option maxHeartbeats 4000000 in
theorem implApplySwaps_any (A B P : Option Addr) (n c m d cp : Nat) (vs : List (ByteArray × Int)) (rs : List RecD) (R : List (List Int)) (w : World) (hx : SchR w A n c vs) (hy : DatR w B m rs) (hr : IntsS w P R.length (fun t => R[t]?.getD [])) (hl : R.length ≤ 1099511627776) (hrl : ∀ t, t < R.length → (R[t]?.getD []).length ≤ 1099511627776) (hd : dinB vs rs = true) (hp : pairsB R rs.length = true) :
    Calls Tryz.prog 10 #[.slice A n c, .slice B m d, .slice P R.length cp] w fun e w' => ∃ A' c', e = .returned (.tuple #[.slice A' m c', .bool true]) ∧ DRc w' w.heap.size A' m c' (swK rs R R.length) ∧ Below w.heap.size w w' := by
  have hml : rs.length = m := hy.r.1
  have hs : schB vs = true := by unfold dinB at hd; rw [Bool.and_eq_true] at hd; exact hd.1
  have hdb : dataB vs rs = true := by unfold dinB at hd; rw [Bool.and_eq_true] at hd; exact hd.2
  rw [hml] at hp
  have HP := Lib.hid hp
  have HS := Lib.hid hs
  have HD := Lib.hid hdb
  have HROW := Lib.hid (pairsB_of hp).2
  have h20 := (pairsB_of hp).1
  have HR := Lib.hid hr
  have HML := Lib.hid hml
  clear hd hp hs hdb hml
  go_enter Tryz.func10, Tryz.ntmps10
  go_wp2_with fail
  refine (IsSchema_any A n c vs _ hx.v hx.s hx.bd hx.cp).mono ?_
  rintro e w1 ⟨rfl, b1⟩
  rw [HS.out]
  go_wp2_with fail
  refine (isData_any A B n c m d vs rs _ (hx.below b1) (hy.below b1)).mono ?_
  rintro e w2 ⟨rfl, b2'⟩
  rw [HD.out]
  have b2 := b1.trans (b2'.mono b1.size)
  go_wp2_with fail
  refine (arePairs_any P cp m R _ (hr.below b2) hl hrl).mono ?_
  rintro e w3 ⟨rfl, b3'⟩
  rw [HP.out]
  have b3 := b2.trans (b3'.mono b2.size)
  go_wp2_with fail
  refine (copyRecords_any B m d rs _ (hy.below b3)).mono ?_
  rintro e w4 ⟨A', c', rfl, od, b4'⟩
  have OD := Lib.hid (od.mono b3.size)
  have B4 := Lib.hid (b3.trans (b4'.mono b3.size))
  clear b1 b2 b2' b3 b3' b4' od hx hy hr hrl HS HD HP
  have OD0 : Hid (DRc w4 w.heap.size A' m c' (swK rs R 0)) := OD
  clear OD
  go_wp2
  go_loopw [33] (fun i wr => ∃ (j : Nat), j ≤ R.length ∧ i = .int .i64 j ∧ Hid (DRc wr w.heap.size A' m c' (swK rs R j)) ∧ Hid (Below w.heap.size w wr)) (fun i _ => R.length - (intOf i).toNat)
  case atStart => exact ⟨0, Nat.zero_le _, rfl, OD0, B4⟩
  case round =>
    clear OD0 B4
    obtain ⟨j, hj, rfl, HD, HB⟩ := hrel
    by_cases hlt : j < R.length
    case pos =>
      obtain ⟨ad, rfl, V, cc, q5w, hVw⟩ := HR.out.at_ hlt
      have q5 := (HB.out.cell (block_lt_of_cell q5w)).trans q5w
      obtain ⟨a, b, hrw, hab, hbm⟩ := HROW.out j hlt
      have HSW : Hid (swK rs R (j + 1) = (swK rs R j |>.set a ⟨rA (swK rs R j) b, rH (swK rs R j) b, rV (swK rs R j) a⟩).set b ⟨rA (swK rs R j) a, rH (swK rs R j) a, rV (swK rs R j) b⟩) := Lib.hid (by have h9 := pr_row hrw; rw [swK, h9.1, h9.2]; rfl)
      replace hVw : Ints w V (R[j]?.getD []).length (R[j]?.getD []) := hVw
      replace q5 : wr.cell? (ad.add j) = some (.slice V (R[j]?.getD []).length cc) := q5
      generalize R[j]?.getD [] = r at *
      subst hrw
      replace q5 : wr.cell? (ad.add j) = some (.slice V 2 cc) := q5
      obtain ⟨ad6, rfl, p0⟩ := hVw.at_ (show 0 < [(a : Int), (b : Int)].length by simp)
      obtain ⟨ad6', e6, p1⟩ := hVw.at_ (show 1 < [(a : Int), (b : Int)].length by simp)
      simp only [Option.some.injEq] at e6
      subst e6
      have p00w : w.cell? ad6 = some (.int .i64 a) := by have := p0; simpa [Addr.add] using this
      have p11w : w.cell? { block := ad6.block, off := ad6.off + 1, spot := none } = some (.int .i64 b) := by have := p1; simpa [Addr.add] using this
      have hn6 : ad6.block < w.heap.size := block_lt_of_cell p00w
      have p00 := (HB.out.cell (block_lt_of_cell p00w)).trans p00w
      have p11 := (HB.out.cell (block_lt_of_cell p11w)).trans p11w
      generalize swK rs R j = cs at *
      obtain ⟨g, rfl, hg, hgl, V1, l1, k1, c0, c1, c2, o1⟩ := HD.out.at_ (show a < m by omega)
      obtain ⟨g', eg, _, _, V2, l2, k2, d0, d1, d2, o2⟩ := HD.out.at_ hbm
      obtain rfl : g = g' := by injection eg with eg; injection eg
      have O1 := Lib.hid o1
      have O2 := Lib.hid o2
      generalize rA cs a = x at *
      generalize rA cs b = x2 at *
      generalize rH cs a = y at *
      generalize rH cs b = y2 at *
      generalize rV cs a = xs at *
      generalize rV cs b = xs2 at *
      have am : (a : Int) < (m : Int) := by omega
      have bm : (b : Int) < (m : Int) := by omega
      have a0 : (0 : Int) ≤ (a : Int) := by omega
      have b0 : (0 : Int) ≤ (b : Int) := by omega
      have hz := HB.out.size
      have hn6r : ad6.block < wr.heap.size := by omega
      clear o1 o2 eg hVw q5w p0 p1 p00w p11w
      go_upto_region 7 with (fail)
      go_cut [11, 12] (fun v11 v12 wx => ∃ g1 g2 : Nat, v11 = .pointer (some ⟨g1, 0, none⟩) ∧ v12 = .pointer (some ⟨g2, 0, none⟩) ∧ g1 ≠ g2 ∧ wr.heap.size ≤ g1 ∧ wr.heap.size ≤ g2 ∧ wx.heap[g1]? = some (.cells #[.int .i64 x, .int .i64 y, .slice V1 l1 k1] 79 (0, 0)) ∧ wx.heap[g2]? = some (.cells #[.int .i64 x2, .int .i64 y2, .slice V2 l2 k2] 79 (0, 0)) ∧ Below wr.heap.size wr wx)
      case first =>
        go_region
        all_goals (go_wp2_with fail; go_meet)
        all_goals first | (obtain ⟨b0, x1, x2⟩ := box_two wr #[.int .i64 x, .int .i64 y, .slice V1 l1 k1] #[.int .i64 x2, .int .i64 y2, .slice V2 l2 k2] 79 79; exact ⟨_, _, rfl, rfl, by omega, Nat.le_refl _, Nat.le_succ _, x1, x2, b0.drew⟩) | (obtain ⟨b0, x1, x2⟩ := box_two wr #[.int .i64 x2, .int .i64 y2, .slice V2 l2 k2] #[.int .i64 x, .int .i64 y, .slice V1 l1 k1] 79 79; exact ⟨_, _, rfl, rfl, by omega, Nat.le_succ _, Nat.le_refl _, x2, x1, b0.drew⟩)
      case rest =>
        obtain ⟨g1, g2, rfl, rfl, hne, h1, h2, z1, z2, bx⟩ := hcut
        have hne2 : g2 ≠ g1 := fun e => hne e.symm
        have i1_ := box_cell z1 0 _ rfl; have i2_ := box_cell z1 1 _ rfl; have j1_ := box_cell z2 0 _ rfl; have j2_ := box_cell z2 1 _ rfl
        have f10 := box_free z1 0; have f11 := box_free z1 1; have f20 := box_free z2 0; have f21 := box_free z2 1
        have l11 := lt_of_block z1; have l12 := lt_of_block z2
        have s1 := box_set z1 0 (.int .i64 x2)
        have s2 := box_off (p := ⟨g1, 0, none⟩) z2 (by exact hne2) (.int .i64 x2)
        have t1 := box_off (p := ⟨g2, 0, none⟩) s1 (by exact hne) (.int .i64 x)
        have t2 := box_set s2 0 (.int .i64 x)
        have u1 := box_set t1 1 (.int .i64 y2)
        have u2 := box_off (p := ⟨g1, 1, none⟩) t2 (by exact hne2) (.int .i64 y2)
        have v1 := box_off (p := ⟨g2, 1, none⟩) u1 (by exact hne) (.int .i64 y)
        have v2 := box_set u2 1 (.int .i64 y)
        have b4 : Below wr.heap.size wr ((((wc.setCell ⟨g1, 0, none⟩ (.int .i64 x2)).setCell ⟨g2, 0, none⟩ (.int .i64 x)).setCell ⟨g1, 1, none⟩ (.int .i64 y2)).setCell ⟨g2, 1, none⟩ (.int .i64 y)) := ((((bx.setCell (p := ⟨g1, 0, none⟩) h1 _).setCell (p := ⟨g2, 0, none⟩) h2 _).setCell (p := ⟨g1, 1, none⟩) h1 _).setCell (p := ⟨g2, 1, none⟩) h2 _)
        have V1h : Hid (((((wc.setCell ⟨g1, 0, none⟩ (.int .i64 x2)).setCell ⟨g2, 0, none⟩ (.int .i64 x)).setCell ⟨g1, 1, none⟩ (.int .i64 y2)).setCell ⟨g2, 1, none⟩ (.int .i64 y)).heap[g1]? = some (.cells #[.int .i64 x2, .int .i64 y2, .slice V1 l1 k1] 79 (0, 0))) := Lib.hid v1
        have V2h : Hid (((((wc.setCell ⟨g1, 0, none⟩ (.int .i64 x2)).setCell ⟨g2, 0, none⟩ (.int .i64 x)).setCell ⟨g1, 1, none⟩ (.int .i64 y2)).setCell ⟨g2, 1, none⟩ (.int .i64 y)).heap[g2]? = some (.cells #[.int .i64 x, .int .i64 y, .slice V2 l2 k2] 79 (0, 0))) := Lib.hid v2
        have HB4 := Lib.hid b4
        have n1_ := box_cell t1 1 (.int .i64 y) rfl; have m1_ := box_cell t2 1 (.int .i64 y2) rfl
        have n2_ := box_free t1 1; have m2_ := box_free t2 1; have n3_ := box_free s2 0; have m3_ := box_cell s2 0 (.int .i64 x2) rfl; have n4_ := box_free u2 1; have m4_ := box_cell u2 1 (.int .i64 y2) rfl
        have e00 := (b4.cell (block_lt_of_cell p00)).trans p00
        have e11 := (b4.cell (block_lt_of_cell p11)).trans p11
        have D4 := Lib.hid (HD.out.below b4)
        have P1 := Lib.hid (O1.out.below b4)
        have P2 := Lib.hid (O2.out.below b4)
        have HBB := Lib.hid (HB.out.trans (b4.mono hz))
        have z4 := b4.size
        clear s1 s2 t1 t2 u1 u2 v1 v2 z1 z2 bx b4 p00 p11 c0 c1 c2 d0 d1 d2 HD HB O1 O2 q5
        go_wp2_with fail
        clear i1_ i2_ j1_ j2_ n1_ m1_ n2_ m2_ n3_ m3_ n4_ m4_ f10 f11 f20 f21 l11 l12
        generalize ((((wc.setCell ⟨g1, 0, none⟩ (.int .i64 x2)).setCell ⟨g2, 0, none⟩ (.int .i64 x)).setCell ⟨g1, 1, none⟩ (.int .i64 y2)).setCell ⟨g2, 1, none⟩ (.int .i64 y)) = w4 at *
        have k0_ := box_cell V1h.out 0 _ rfl; have k1_ := box_cell V1h.out 1 _ rfl; have k2_ := box_cell V1h.out 2 _ rfl; have lk := lt_of_block V1h.out
        obtain ⟨ys, hys⟩ := D4.out.rows
        obtain ⟨⟨v0, hv0⟩, ⟨v1, hv1⟩, ⟨v2, hv2⟩, hf0, hf1, hf2⟩ := row_three hys (show a < m by omega)
        have ng1 : g1 ≠ g := by omega
        have ng2 : g2 ≠ g := by omega
        have D5 := Lib.hid ((D4.out.put (j := a) (r := ⟨x2, y2, xs⟩) (show a < m by omega) (P1.out.fit (Nat.le_refl _))).below (Below.refl _ _).drew)
        have hneV : rowOf V2 ≠ some g := fun e => row_ne2 P2.out.own hys (by decide) e rfl
        have P5 := Lib.hid ((((((P2.out.fit (Nat.le_refl _)).farS (g := g) (i := a * 3) (v := .int .i64 x2) hneV).farS (g := g) (i := a * 3 + 1) (v := .int .i64 y2) hneV).farS (g := g) (i := a * 3 + 2) (v := .slice V1 l1 k1) hneV).below (Below.refl _ _).drew).fit (Nat.le_refl _))
        have V5 : Hid ((((w4.setCell ⟨g, a * 3, none⟩ (.int .i64 x2)).setCell ⟨g, a * 3 + 1, none⟩ (.int .i64 y2)).setCell ⟨g, a * 3 + 2, none⟩ (.slice V1 l1 k1)).drew.heap[g2]? = some (.cells #[.int .i64 x, .int .i64 y, .slice V2 l2 k2] 79 (0, 0))) := Lib.hid (far3S V2h.out ng2)
        have nu : ad6.block ≠ g := by omega
        have f11 : (((w4.setCell ⟨g, a * 3, none⟩ (.int .i64 x2)).setCell ⟨g, a * 3 + 1, none⟩ (.int .i64 y2)).setCell ⟨g, a * 3 + 2, none⟩ (.slice V1 l1 k1)).drew.cell? { block := ad6.block, off := ad6.off + 1, spot := none } = some (.int .i64 b) := cell_far (cell_far (cell_far e11 nu) nu) nu
        have HB5 : Hid (Below w.heap.size w (((w4.setCell ⟨g, a * 3, none⟩ (.int .i64 x2)).setCell ⟨g, a * 3 + 1, none⟩ (.int .i64 y2)).setCell ⟨g, a * 3 + 2, none⟩ (.slice V1 l1 k1)).drew) := Lib.hid (below3S HBB.out hg).drew
        have hsz5 : (((w4.setCell ⟨g, a * 3, none⟩ (.int .i64 x2)).setCell ⟨g, a * 3 + 1, none⟩ (.int .i64 y2)).setCell ⟨g, a * 3 + 2, none⟩ (.slice V1 l1 k1)).drew.heap.size = w4.heap.size := by simp [World.drew]
        have HZ5 := Lib.hid hsz5
        clear hsz5 hneV P1 P2 V2h HBB D4 hys e11
        go_region
        clear k0_ k1_ k2_ lk hv0 hv1 hv2 hf0 hf1 hf2 e00 V1h
        generalize (((w4.setCell ⟨g, a * 3, none⟩ (.int .i64 x2)).setCell ⟨g, a * 3 + 1, none⟩ (.int .i64 y2)).setCell ⟨g, a * 3 + 2, none⟩ (.slice V1 l1 k1)).drew = w5 at *
        have k0_ := box_cell V5.out 0 _ rfl; have k1_ := box_cell V5.out 1 _ rfl; have k2_ := box_cell V5.out 2 _ rfl; have lk := lt_of_block V5.out
        obtain ⟨zs, hzs⟩ := D5.out.rows
        obtain ⟨⟨v0', hv0⟩, ⟨v1', hv1⟩, ⟨v2', hv2⟩, hf0, hf1, hf2⟩ := row_three hzs hbm
        have D6 := Lib.hid ((D5.out.put (j := b) (r := ⟨x, y, xs2⟩) hbm P5.out).below (Below.refl _ _).drew)
        rw [← HSW.out] at D6
        have HB6 : Hid (Below w.heap.size w (((w5.setCell ⟨g, b * 3, none⟩ (.int .i64 x)).setCell ⟨g, b * 3 + 1, none⟩ (.int .i64 y)).setCell ⟨g, b * 3 + 2, none⟩ (.slice V2 l2 k2)).drew) := Lib.hid (below3S HB5.out hg).drew
        clear D5 P5 hzs HB5
        go_wp2_with fail
        go_region
        generalize (((w5.setCell ⟨g, b * 3, none⟩ (.int .i64 x)).setCell ⟨g, b * 3 + 1, none⟩ (.int .i64 y)).setCell ⟨g, b * 3 + 2, none⟩ (.slice V2 l2 k2)).drew = w6 at *
        clear k0_ k1_ k2_ lk hv0 hv1 hv2 hf0 hf1 hf2 f11 V5
        go_wp2
        go_roundw
        case rel => exact ⟨j + 1, by omega, by go_num, D6, HB6⟩
        case measure => simp [intOf]; omega
    case neg =>
      obtain rfl : j = R.length := by omega
      go_wp2
      go_ret2
      exact ⟨_, _, rfl, HD.out, HB.out⟩
end Go.Proofs.YtahbcnclhohnaaaGreat
