/- What servers and tables among the law's own arguments read as; printed by gop.py. -/
import Derived.Test.YtfanpbfmnckmnaaGreatOpenS
import Derived.Test.YtfanpbfmnckmnaaGreatTlC
import Derived.Lib.SmallJoins
namespace Go.Proofs.YtfanpbfmnckmnaaGreat
open Go.RowKit Go.ChangeShapes Go.WideShapes Go.Deep Go.Joins

theorem split_cons {α : Type} {n : Nat} {l : List α} (h : l.length = n + 1) : ∃ a l', l = a :: l' ∧ l'.length = n := by
  cases l with
  | nil => cases h
  | cons a l => exact ⟨a, l, rfl, by simpa using h⟩
section
variable {H : Type} {enc : TypeId × Value → H} {P : Program} {w : World} {base : Nat} {held : Bool}
theorem fld {t : TypeId} {fs : Array Field} {n j : Nat} {f : Field} {cs : List Value} {x : DataW H × List MemPlace} (ht : P.underlying t = some (.struct fs)) (h : DataW.trod enc P w base (fun _ => true) held n t cs = some x) (hj : fs[j]? = some f) :
    ∃ (n' : Nat) (y : DataW H × List MemPlace), DataW.trod enc P w base (fun _ => true) held n' f.type ((cs.drop f.offset).take (P.cellsOf f.type)) = some y := by
  obtain ⟨ys, n', _, _, _, hyl, hf⟩ := DataW.trod_struct ht h
  have hjl : j < fs.size := (Array.getElem?_eq_some_iff.1 hj).1
  obtain ⟨y, hy⟩ : ∃ y, ys[j]? = some y := ⟨_, List.getElem?_eq_getElem (by rw [hyl]; simpa using hjl)⟩
  exact ⟨n', y, by rw [← hy]; exact hf j f hj⟩
end
section
variable {H : Type} {enc : TypeId × Value → H} {w : World} {base : Nat} {held : Bool}
theorem open_tabs {fuel : Nat} {v : Value} {x : DataW H × List MemPlace} (h : DataW.trod enc Tryz.prog w base (fun _ => true) held fuel 27 [v] = some x) :
    ∃ (A : Option Addr) (n c : Nat) (zs : List TabD), v = .slice A n c ∧ TabsL w A n zs ∧ n ≤ maxLen ∧ ∀ j, j < n → (tX zs j).vars.length ≤ maxLen ∧ (tX zs j).wh.length ≤ maxLen := by
  have hC : (Tryz.prog).cellsOf 52 = 4 := by kernel_rfl
  rcases open_slice Tryz.underlying27 h with ⟨hcs, _⟩ | ⟨a0, n, cap, m, k, D, Pl, hcs, _, hl, hm, hmm, _, hi⟩
  · injection hcs with hcs
    subst hcs
    exact ⟨none, 0, 0, [], rfl, TabsL.nil_, by unfold maxLen; omega, fun j hj => absurd hj (by omega)⟩
  · injection hcs with hcs
    subst hcs
    rw [hC] at hi
    obtain ⟨zs, hzl, hz⟩ := list_of (α := TabD) (Q := fun j p => w.cell? (a0.add (j * 4)) = some (.int .i64 p.lv) ∧ w.cell? ⟨(a0.add (j * 4)).block, (a0.add (j * 4)).off + 3, none⟩ = some (.int .i64 p.sum) ∧ (∃ V m c, w.cell? ⟨(a0.add (j * 4)).block, (a0.add (j * 4)).off + 1, none⟩ = some (.slice V m c) ∧ Ints w V m p.vars) ∧ (∃ U k c, w.cell? ⟨(a0.add (j * 4)).block, (a0.add (j * 4)).off + 2, none⟩ = some (.slice U k c) ∧ Ints w U k p.wh) ∧ p.vars.length ≤ maxLen ∧ p.wh.length ≤ maxLen) n (fun j hj => by
      obtain ⟨cs, hcells, ht⟩ := hi j (by simp at hmm; omega)
      obtain ⟨v0, n0, y0, hv0, t0⟩ := field_cell (j := 0) Tryz.underlying52 (by kernel_rfl) (by kernel_rfl) hcells ht rfl
      obtain ⟨v1, n1, y1, hv1, t1⟩ := field_cell (j := 1) Tryz.underlying52 (by kernel_rfl) (by kernel_rfl) hcells ht rfl
      obtain ⟨v2, n2, y2, hv2, t2⟩ := field_cell (j := 2) Tryz.underlying52 (by kernel_rfl) (by kernel_rfl) hcells ht rfl
      obtain ⟨v3, n3, y3, hv3, t3⟩ := field_cell (j := 3) Tryz.underlying52 (by kernel_rfl) (by kernel_rfl) hcells ht rfl
      obtain ⟨p, e0, _, _⟩ := DataW.trod_int Tryz.underlying3 t0
      obtain ⟨q, e3, _, _⟩ := DataW.trod_int Tryz.underlying3 t3
      obtain ⟨V, m', c', xs, e1, hV, hm', _⟩ := open_ints_any t1
      obtain ⟨U, k', d', ys, e2, hU, hk', _⟩ := open_ints_any t2
      injection e0 with e0
      injection e3 with e3
      subst e0 e1 e2 e3
      refine ⟨⟨p, xs, ys, q⟩, ?_, ?_, ⟨V, m', c', ?_, hV⟩, ⟨U, k', d', ?_, hU⟩, by rw [hV.1]; exact hm', by rw [hU.1]; exact hk'⟩
      · have : (a0.add (j * 4)).add 0 = a0.add (j * 4) := by unfold Addr.add; simp
        rw [this] at hv0; exact hv0
      · have : (a0.add (j * 4)).add 3 = ⟨(a0.add (j * 4)).block, (a0.add (j * 4)).off + 3, none⟩ := rfl
        rw [this] at hv3; exact hv3
      · have : (a0.add (j * 4)).add 1 = ⟨(a0.add (j * 4)).block, (a0.add (j * 4)).off + 1, none⟩ := rfl
        rw [this] at hv1; exact hv1
      · have : (a0.add (j * 4)).add 2 = ⟨(a0.add (j * 4)).block, (a0.add (j * 4)).off + 2, none⟩ := rfl
        rw [this] at hv2; exact hv2)
    refine ⟨some a0, n, cap, zs, rfl, ⟨hzl, fun _ => ⟨a0, rfl, fun j hj => ?_⟩⟩, by omega, fun j hj => ?_⟩
    · obtain ⟨p, e, h0, h1, h2, h3, _⟩ := hz j hj
      simp only [tX, e, Option.getD_some]
      exact ⟨h0, h1, h2, h3⟩
    · obtain ⟨p, e, _, _, _, _, h4, h5⟩ := hz j hj
      simp only [tX, e, Option.getD_some]
      exact ⟨h4, h5⟩

theorem open_frac {n : Nat} {c0 c1 : Value} {x : DataW H × List MemPlace} (h : DataW.trod enc Tryz.prog w base (fun _ => true) held n 29 [c0, c1] = some x) : ∃ a b : Int, c0 = .int .i64 a ∧ c1 = .int .i64 b := by
  have hI : (Tryz.prog).cellsOf 3 = 1 := by kernel_rfl
  obtain ⟨n0, y0, t0⟩ := fld (j := 0) Tryz.underlying29 h rfl
  obtain ⟨n1, y1, t1⟩ := fld (j := 1) Tryz.underlying29 h rfl
  simp [hI] at t0 t1
  obtain ⟨a, e0, _, _⟩ := DataW.trod_int Tryz.underlying3 t0
  obtain ⟨b, e1, _, _⟩ := DataW.trod_int Tryz.underlying3 t1
  injection e0 with e0
  injection e1 with e1
  exact ⟨a, b, e0, e1⟩
theorem open_loss {n : Nat} {c0 c1 c2 c3 : Value} {x : DataW H × List MemPlace} (h : DataW.trod enc Tryz.prog w base (fun _ => true) held n 31 [c0, c1, c2, c3] = some x) : ∃ l : LosD, c0 = .int .i64 l.a ∧ c1 = .int .i64 l.b ∧ c2 = .int .i64 l.c ∧ c3 = .int .i64 l.d := by
  have hF : (Tryz.prog).cellsOf 29 = 2 := by kernel_rfl
  obtain ⟨n0, y0, t0⟩ := fld (j := 0) Tryz.underlying31 h rfl
  obtain ⟨n1, y1, t1⟩ := fld (j := 1) Tryz.underlying31 h rfl
  simp [hF] at t0 t1
  obtain ⟨a, b, e0, e1⟩ := open_frac t0
  obtain ⟨c, d, e2, e3⟩ := open_frac t1
  exact ⟨⟨a, b, c, d⟩, e0, e1, e2, e3⟩

set_option maxRecDepth 100000 in
theorem open_server {r : Reach} {b0 : Nat} {v : Value} {dd : DataW H} {pp : List MemPlace} (hv : Value.okWide Tryz.prog w r b0 33 v) (h : DataW.Trod enc Tryz.prog w base (fun _ => true) held 33 v dd pp) :
    ∃ (P A Z Y Q : Option Addr) (g cg n c m cm p cp q cq : Nat) (D : SvD), v = .agg #[.slice P g cg, .slice A n c, .slice Z m cm, .slice Y p cp, .int .i64 D.cost.a, .int .i64 D.cost.b, .int .i64 D.cost.c, .int .i64 D.cost.d, .int .i64 D.bud.a, .int .i64 D.bud.b, .int .i64 D.bud.c, .int .i64 D.bud.d, .int .i64 D.floor, .slice Q q cq] ∧ LawSv w P A Z Y Q g n m p q D ∧ SvBd 9223372036854775807 g n m p q D := by
  have hC : (Tryz.prog).cellsOf 33 = 14 := by kernel_rfl
  obtain ⟨⟨l0⟩, rfl, hsz⟩ := okWide_struct Tryz.underlying33 hv
  have h0 : l0.length = 14 := by simpa using hsz.trans hC
  obtain ⟨c0, l1, rfl, h1⟩ := split_cons h0
  obtain ⟨c1, l2, rfl, h2⟩ := split_cons h1
  obtain ⟨c2, l3, rfl, h3⟩ := split_cons h2
  obtain ⟨c3, l4, rfl, h4⟩ := split_cons h3
  obtain ⟨c4, l5, rfl, h5⟩ := split_cons h4
  obtain ⟨c5, l6, rfl, h6⟩ := split_cons h5
  obtain ⟨c6, l7, rfl, h7⟩ := split_cons h6
  obtain ⟨c7, l8, rfl, h8⟩ := split_cons h7
  obtain ⟨c8, l9, rfl, h9⟩ := split_cons h8
  obtain ⟨c9, l10, rfl, h10⟩ := split_cons h9
  obtain ⟨c10, l11, rfl, h11⟩ := split_cons h10
  obtain ⟨c11, l12, rfl, h12⟩ := split_cons h11
  obtain ⟨c12, l13, rfl, h13⟩ := split_cons h12
  obtain ⟨c13, l14, rfl, h14⟩ := split_cons h13
  obtain rfl : l14 = [] := List.length_eq_zero_iff.1 h14
  obtain ⟨fuel, hf⟩ := h
  have hf2 : DataW.trod enc Tryz.prog w base (fun _ => true) held fuel 33 [c0, c1, c2, c3, c4, c5, c6, c7, c8, c9, c10, c11, c12, c13] = some (dd, pp) := by simpa [Value.cells] using hf
  have hG : (Tryz.prog).cellsOf 24 = 1 := by kernel_rfl
  have hI : (Tryz.prog).cellsOf 3 = 1 := by kernel_rfl
  have hS : (Tryz.prog).cellsOf 25 = 1 := by kernel_rfl
  have hR : (Tryz.prog).cellsOf 26 = 1 := by kernel_rfl
  have hT : (Tryz.prog).cellsOf 27 = 1 := by kernel_rfl
  have hL : (Tryz.prog).cellsOf 31 = 4 := by kernel_rfl
  have hN : (Tryz.prog).cellsOf 22 = 1 := by kernel_rfl
  obtain ⟨n0, y0, t0⟩ := fld (j := 0) Tryz.underlying33 hf2 rfl
  obtain ⟨n1, y1, t1⟩ := fld (j := 1) Tryz.underlying33 hf2 rfl
  obtain ⟨n2, y2, t2⟩ := fld (j := 2) Tryz.underlying33 hf2 rfl
  obtain ⟨n3, y3, t3⟩ := fld (j := 3) Tryz.underlying33 hf2 rfl
  obtain ⟨n4, y4, t4⟩ := fld (j := 4) Tryz.underlying33 hf2 rfl
  obtain ⟨n5, y5, t5⟩ := fld (j := 5) Tryz.underlying33 hf2 rfl
  obtain ⟨n6, y6, t6⟩ := fld (j := 6) Tryz.underlying33 hf2 rfl
  obtain ⟨n7, y7, t7⟩ := fld (j := 7) Tryz.underlying33 hf2 rfl
  simp [hG] at t0
  simp [hS] at t1
  simp [hR] at t2
  simp [hT] at t3
  simp [hL] at t4
  simp [hL] at t5
  simp [hI] at t6
  simp [hT] at t7
  obtain ⟨n8, y8, t8⟩ := fld (j := 0) Tryz.underlying24 t0 rfl
  simp [hN] at t8
  obtain ⟨P, g, cg, par, rfl, r0, m0, _⟩ := open_ints_any t8
  obtain ⟨A, n, c, rfl⟩ : ∃ A n c, c1 = .slice A n c := by
    rcases open_slice Tryz.underlying25 t1 with ⟨hcs, _⟩ | ⟨a, l, cap, _, _, _, _, hcs, _⟩
    · injection hcs with hcs
      exact ⟨none, 0, 0, hcs⟩
    · injection hcs with hcs
      exact ⟨some a, l, cap, hcs⟩
  obtain ⟨vs, r1, m1, s1⟩ := open_vars t1
  obtain ⟨Z, m, cm, rfl⟩ : ∃ A n c, c2 = .slice A n c := by
    rcases open_slice Tryz.underlying26 t2 with ⟨hcs, _⟩ | ⟨a, l, cap, _, _, _, _, hcs, _⟩
    · injection hcs with hcs
      exact ⟨none, 0, 0, hcs⟩
    · injection hcs with hcs
      exact ⟨some a, l, cap, hcs⟩
  obtain ⟨rs, r2, m2, s2⟩ := open_recs t2
  obtain ⟨Y, p, cp, plan, rfl, r3, m3, s3⟩ := open_tabs t3
  obtain ⟨cost, rfl, rfl, rfl, rfl⟩ := open_loss t4
  obtain ⟨bud, rfl, rfl, rfl, rfl⟩ := open_loss t5
  obtain ⟨fl, e6, _, _⟩ := DataW.trod_int Tryz.underlying3 t6
  injection e6 with e6
  subst e6
  obtain ⟨Q, q, cq, asked, rfl, r7, m7, s7⟩ := open_tabs t7
  unfold maxLen at *
  exact ⟨P, A, Z, Y, Q, g, cg, n, c, m, cm, p, cp, q, cq, ⟨par, vs, rs, plan, cost, bud, fl, asked⟩, rfl, ⟨r0, r1, r2, r3, r7⟩, ⟨m0, m1, m2, m3, m7, s1, s2, s3, s7⟩⟩

set_option maxRecDepth 100000 in
theorem open_table {r : Reach} {b0 : Nat} {v : Value} {dd : DataW H} {pp : List MemPlace} (hv : Value.okWide Tryz.prog w r b0 52 v) (h : DataW.Trod enc Tryz.prog w base (fun _ => true) held 52 v dd pp) :
    ∃ (V U : Option Addr) (tm td tk te : Nat) (t : TabD), v = .agg #[.int .i64 t.lv, .slice V tm td, .slice U tk te, .int .i64 t.sum] ∧ Ints w V tm t.vars ∧ Ints w U tk t.wh ∧ tm ≤ 9223372036854775807 ∧ tk ≤ 9223372036854775807 := by
  obtain ⟨c0, c1, c2, c3, y0, y1, y2, y3, n, rfl, rfl, rfl, t0, t1, t2, t3⟩ := open_agg4 Tryz.underlying52 (by kernel_rfl) (by kernel_rfl) hv h
  obtain ⟨p, e0, _, _⟩ := DataW.trod_int Tryz.underlying3 t0
  obtain ⟨q, e3, _, _⟩ := DataW.trod_int Tryz.underlying3 t3
  obtain ⟨V, m', c', xs, rfl, hV, hm', _⟩ := open_ints_any t1
  obtain ⟨U, k', d', ys, rfl, hU, hk', _⟩ := open_ints_any t2
  injection e0 with e0
  injection e3 with e3
  subst e0 e3
  unfold maxLen at *
  exact ⟨V, U, m', c', k', d', ⟨p, xs, ys, q⟩, rfl, hV, hU, hm', hk'⟩
end
end Go.Proofs.YtfanpbfmnckmnaaGreat
