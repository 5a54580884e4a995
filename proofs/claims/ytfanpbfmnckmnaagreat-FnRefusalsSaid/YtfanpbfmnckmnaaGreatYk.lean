/- Several small texts in one: TlC, TlD. -/
import Derived.Test.YtfanpbfmnckmnaaGreatYj
import Derived.Test.YtfanpbfmnckmnaaGreatSrvB
namespace Go.Proofs.YtfanpbfmnckmnaaGreat

section
open Go.RowKit

set_option maxHeartbeats 400000 in
theorem toFrac_L (a b : Int) (w : World) :
    Calls Tryz.prog 112 #[.agg #[.int .i64 a, .int .i64 b]] w fun e w' => e = .returned (.agg #[.int .i64 a, .int .i64 b]) ∧ Below w.heap.size w w' := by
  go_enter Tryz.func112, Tryz.ntmps112
  go_wp2
  refine bodyPost_ret (v := .agg #[.int .i64 a, .int .i64 b]) (by simp [results, Tryz.results112, go_sem]) rfl ⟨rfl, ?_⟩
  exact (((Below.refl _ _).alloc (Nat.le_refl _) _).alloc (by simp) _).alloc (by simp; omega) _

theorem eqFrac_T (n d : Int) (w : World) :
    Calls Tryz.prog 71 #[.agg #[.int .i64 n, .int .i64 d], .agg #[.int .i64 n, .int .i64 d]] w fun e w' => e = .returned (.bool true) ∧ Below w.heap.size w w' := by
  obtain ⟨b0, x0, x1⟩ := box_two w #[.int .i64 n, .int .i64 d] #[.int .i64 n, .int .i64 d] 40 40
  have a0 := box_cell x0 0 _ rfl
  have a1 := box_cell x0 1 _ rfl
  have c0 := box_cell x1 0 _ rfl
  have c1 := box_cell x1 1 _ rfl
  have hn : (n != n) = false := by simp
  have hd : (d != d) = false := by simp
  go_enter Tryz.func71, Tryz.ntmps71
  go_wp2
  go_ret
  exact ⟨rfl, b0⟩

set_option maxHeartbeats 800000 in
theorem eqLoss_T (x : LosD) (w : World) :
    Calls Tryz.prog 17 #[.agg #[.int .i64 x.a, .int .i64 x.b, .int .i64 x.c, .int .i64 x.d], .agg #[.int .i64 x.a, .int .i64 x.b, .int .i64 x.c, .int .i64 x.d]] w fun e w' => e = .returned (.bool true) ∧ Below w.heap.size w w' := by
  obtain ⟨b0, x0, x1⟩ := box_two w #[.int .i64 x.a, .int .i64 x.b, .int .i64 x.c, .int .i64 x.d] #[.int .i64 x.a, .int .i64 x.b, .int .i64 x.c, .int .i64 x.d] 42 42
  have a0 := box_cell x0 0 _ rfl
  have a1 := box_cell x0 1 _ rfl
  have c0 := box_cell x1 0 _ rfl
  have c1 := box_cell x1 1 _ rfl
  have l0 := lt_of_block x0
  have l1 := lt_of_block x1
  go_enter Tryz.func17, Tryz.ntmps17
  go_wp2_with fail
  generalize (w.alloc (.cells #[.int .i64 x.a, .int .i64 x.b, .int .i64 x.c, .int .i64 x.d] 42)).alloc (.cells #[.int .i64 x.a, .int .i64 x.b, .int .i64 x.c, .int .i64 x.d] 42) = w1 at *
  refine (eqFrac_T _ _ _).mono ?_
  rintro e w2 ⟨rfl, b2⟩
  have y0 := box_below x0 b2
  have y1 := box_below x1 b2
  have HB := Lib.hid (b0.trans (b2.mono b0.size))
  clear a0 a1 c0 c1 l0 l1 x0 x1 b2 b0
  have a2 := box_cell y0 2 _ rfl
  have a3 := box_cell y0 3 _ rfl
  have c2 := box_cell y1 2 _ rfl
  have c3 := box_cell y1 3 _ rfl
  have l0 := lt_of_block y0
  have l1 := lt_of_block y1
  clear y0 y1
  go_wp2_with fail
  refine (eqFrac_T _ _ _).mono ?_
  rintro e w3 ⟨rfl, b3⟩
  have HB2 := Lib.hid (HB.out.trans (b3.mono HB.out.size))
  clear b3
  go_wp2
  go_ret
  exact ⟨rfl, HB2.out⟩

set_option maxHeartbeats 800000 in
theorem szGeo_any (A : Option Addr) (n c : Nat) (k : Int) (w : World) (hn : n ≤ 9223372036854775807) (h0 : 0 ≤ k) (h1 : k ≤ 1099511627776) :
    Calls Tryz.prog 47 #[.agg #[.slice A n c], .int .i64 k] w fun e w' => e = .returned (.int .i64 (szi n k)) ∧ Below w.heap.size w w' := by
  have b0 := Lib.hid (below_new w (.cells #[.slice A n c] 24))
  have F := szi_in n k h0
  have G := szi_two (m := n) (x := k)
  by_cases hlt : szi n k < 0
  · have R := Lib.hid (G.1 hlt)
    go_enter Tryz.func47, Tryz.ntmps47
    go_wp2_with fail
    refine (szIntS_any _ n _ k _ hn h0 h1).mono ?_
    rintro e w2 ⟨rfl, rfl⟩
    clear F G
    go_wp2
    go_ret
    exact ⟨ret_int R.out.symm, b0.out⟩
  · go_enter Tryz.func47, Tryz.ntmps47
    go_wp2_with fail
    refine (szIntS_any _ n _ k _ hn h0 h1).mono ?_
    rintro e w2 ⟨rfl, rfl⟩
    clear F G
    go_wp2
    go_ret
    exact ⟨rfl, b0.out⟩

set_option maxHeartbeats 800000 in
theorem eqGeo_T (A A' : Option Addr) (n c c' : Nat) (xs : List Int) (w : World) (hx : Ints w A n xs) (hy : Ints w A' n xs) (hn : n ≤ 1099511627776) :
    Calls Tryz.prog 65 #[.agg #[.slice A n c], .agg #[.slice A' n c']] w fun e w' => e = .returned (.bool true) ∧ Below w.heap.size w w' := by
  obtain ⟨b0, x0, x1⟩ := box_two w #[.slice A n c] #[.slice A' n c'] 36 36
  have HX := Lib.hid (hx.below b0)
  have HY := Lib.hid (hy.below b0)
  have HB := Lib.hid b0
  have a0 := box_cell x0 0 _ rfl
  have c0 := box_cell x1 0 _ rfl
  have l0 := lt_of_block x0
  have l1 := lt_of_block x1
  clear hx hy b0 x0 x1
  go_enter Tryz.func65, Tryz.ntmps65
  go_wp2_with (go_at_call 27; refine (eqIntS_true _ _ n _ _ xs _ HX.out HY.out hn).mono ?_; rintro e w2 ⟨rfl, q, rfl⟩)
  go_ret
  exact ⟨rfl, below_drewN HB.out q⟩

set_option maxHeartbeats 800000 in
theorem toGeo_any (A : Option Addr) (n c : Nat) (xs : List Int) (w : World) (hx : Ints w A n xs) (hn : n ≤ 1099511627776) :
    Calls Tryz.prog 52 #[.agg #[.slice A n c]] w fun e w' => ∃ V c', e = .returned (.agg #[.slice V n c']) ∧ OwnI w' w.heap.size w'.heap.size V n c' xs ∧ Below w.heap.size w w' := by
  obtain ⟨b0, x1, x2, x3, S⟩ := box_three w #[.slice A n c] #[.slice none 0 0] #[.slice none 0 0] 24 36 36
  have HS := Lib.hid S
  clear S
  have HX := Lib.hid (hx.below b0)
  clear hx
  have l1 := lt_of_block x1
  have c10 := box_cell x1 0 _ rfl
  go_enter Tryz.func52, Tryz.ntmps52
  go_wp2_with fail
  refine (toIntS_law _ _ _ xs _ HX.out hn).mono ?_
  rintro e w2 ⟨V, c', rfl, o2, hb2⟩
  generalize (((w.alloc (.cells #[.slice A n c] 24)).alloc (.cells #[.slice none 0 0] 36)).alloc (.cells #[.slice none 0 0] 36)) = w1 at *
  have y2 := box_below x2 hb2
  have y3 := box_below x3 hb2
  have hs2 := hb2.size
  have c30 := box_cell y3 0 (.slice none 0 0) rfl
  have c20 := box_cell y2 0 (.slice none 0 0) rfl
  have f30 := box_free y3 0
  have f20 := box_free y2 0
  have HO := Lib.hid o2
  have HB := Lib.hid (b0.trans (hb2.mono b0.size))
  clear x1 x2 x3 o2 hb2 y2 y3 b0 c10 l1
  go_wp2
  have g32 : w.heap.size + 1 + 1 < w1.heap.size := by rw [HS.out]; omega
  refine bodyPost_ret (v := .agg #[.slice V n c']) (by simp [results, Tryz.results52, go_sem, c20]) rfl ⟨V, c', rfl, ?_, (HB.out.setCell (by simp; omega) _).setCell (by simp) _⟩
  have hk := ((Chg.refl (w.heap.size + 1) (w.heap.size + 1 + 1 + 1) w2).set (g := w.heap.size + 1 + 1) (i := 0) (v := .slice V n c') (by omega) (by omega)).set (g := w.heap.size + 1) (i := 0) (v := .slice V n c') (by omega) (by omega)
  exact (HO.out.chg hk (.inr (by omega))).fit (by omega)

set_option maxHeartbeats 800000 in
theorem toLoss_any (x : LosD) (w : World) : Calls Tryz.prog 56 #[.agg #[.int .i64 x.a, .int .i64 x.b, .int .i64 x.c, .int .i64 x.d]] w fun e w' => e = .returned (.agg #[.int .i64 x.a, .int .i64 x.b, .int .i64 x.c, .int .i64 x.d]) ∧ Below w.heap.size w w' := by
  obtain ⟨b0, x1, x2, x3, S⟩ := box_three w #[.int .i64 x.a, .int .i64 x.b, .int .i64 x.c, .int .i64 x.d] #[.int .i64 0, .int .i64 0, .int .i64 0, .int .i64 0] #[.int .i64 0, .int .i64 0, .int .i64 0, .int .i64 0] 31 42 42
  have HS := Lib.hid S
  clear S
  have l1 := lt_of_block x1
  have c10 := box_cell x1 0 _ rfl
  have c11 := box_cell x1 1 _ rfl
  go_enter Tryz.func56, Tryz.ntmps56
  go_wp2_with fail
  refine (toFrac_L _ _ _).mono ?_
  rintro e w2 ⟨rfl, hb2⟩
  generalize (((w.alloc (.cells #[.int .i64 x.a, .int .i64 x.b, .int .i64 x.c, .int .i64 x.d] 31)).alloc (.cells #[.int .i64 0, .int .i64 0, .int .i64 0, .int .i64 0] 42)).alloc (.cells #[.int .i64 0, .int .i64 0, .int .i64 0, .int .i64 0] 42)) = w1 at *
  have y1 := box_below x1 hb2
  have y2 := box_below x2 hb2
  have y3 := box_below x3 hb2
  have hs2 := hb2.size
  have HB := Lib.hid (b0.trans (hb2.mono b0.size))
  clear x1 x2 x3 hb2 b0 c10 c11 l1
  have l1 := lt_of_block y1
  have c12 := box_cell y1 2 _ rfl
  have c13 := box_cell y1 3 _ rfl
  have l3 := lt_of_block y3
  have c30 := box_cell y3 0 _ rfl
  have c31 := box_cell y3 1 _ rfl
  have f30 := box_free y3 0
  have f31 := box_free y3 1
  have g32 : w.heap.size + 1 + 1 < w1.heap.size := by rw [HS.out]; omega
  have HB1 := Lib.hid ((HB.out.setCell (p := ⟨w.heap.size + 1 + 1, 0, none⟩) (by simp; omega) (.int .i64 x.a)).setCell (p := ⟨w.heap.size + 1 + 1, 1, none⟩) (by simp; omega) (.int .i64 x.b))
  have z3 := Lib.hid (box_set (box_set y3 0 (.int .i64 x.a)) 1 (.int .i64 x.b))
  have z2 := Lib.hid (show ((w2.setCell ⟨w.heap.size + 1 + 1, 0, none⟩ (.int .i64 x.a)).setCell ⟨w.heap.size + 1 + 1, 1, none⟩ (.int .i64 x.b)).heap[w.heap.size + 1]? = _ from (Below.heap_setCell _ ⟨w.heap.size + 1 + 1, 1, none⟩ (.int .i64 x.b) (w.heap.size + 1) (by simp)).trans ((Below.heap_setCell _ ⟨w.heap.size + 1 + 1, 0, none⟩ (.int .i64 x.a) (w.heap.size + 1) (by simp)).trans y2))
  clear y1 y2 y3 HB
  go_wp2_with fail
  clear l1 l3 c12 c13 c30 c31 f30 f31
  generalize (w2.setCell ⟨w.heap.size + 1 + 1, 0, none⟩ (.int .i64 x.a)).setCell ⟨w.heap.size + 1 + 1, 1, none⟩ (.int .i64 x.b) = w3 at *
  refine (toFrac_L _ _ _).mono ?_
  rintro e w4 ⟨rfl, hb4⟩
  have y2 := box_below z2.out hb4
  have y3 : w4.heap[w.heap.size + 1 + 1]? = some (.cells #[.int .i64 x.a, .int .i64 x.b, .int .i64 0, .int .i64 0] 42 (0, 0)) := box_below z3.out hb4
  have HB4 := Lib.hid (HB1.out.trans (hb4.mono HB1.out.size))
  clear z2 z3 hb4 HB1
  have l2 := lt_of_block y2
  have l3 := lt_of_block y3
  have c20 := box_cell y2 0 _ rfl
  have c21 := box_cell y2 1 _ rfl
  have c22 := box_cell y2 2 _ rfl
  have c23 := box_cell y2 3 _ rfl
  have c30 := box_cell y3 0 _ rfl
  have c31 := box_cell y3 1 _ rfl
  have c32 := box_cell y3 2 _ rfl
  have c33 := box_cell y3 3 _ rfl
  have f32 := box_free y3 2
  have f33 := box_free y3 3
  have f20 := box_free y2 0
  have f21 := box_free y2 1
  have f22 := box_free y2 2
  have f23 := box_free y2 3
  clear y2 y3
  go_wp2
  exact bodyPost_ret (v := .agg #[.int .i64 x.a, .int .i64 x.b, .int .i64 x.c, .int .i64 x.d]) (by simp [results, Tryz.results56, go_sem, c20, c21, c22, c23]) rfl ⟨rfl, (((((HB4.out.setCell (by simp; omega) _).setCell (by simp; omega) _).setCell (by simp) _).setCell (by simp) _).setCell (by simp) _).setCell (by simp) _⟩

/-- What a server of the laws reads as. -/
structure LawSv (w : World) (P A Z Y Q : Option Addr) (g n m p q : Nat) (D : SvD) : Prop where
  par : Ints w P g D.par
  vs : VarsR w A n D.vs
  rs : RecsR w Z m D.rs
  plan : TabsL w Y p D.plan
  asked : TabsL w Q q D.asked
theorem LawSv.below {w w' : World} {P A Z Y Q : Option Addr} {g n m p q : Nat} {D : SvD} (h : LawSv w P A Z Y Q g n m p q D) (hb : Below w.heap.size w w') : LawSv w' P A Z Y Q g n m p q D := ⟨h.par.below hb, h.vs.below hb, h.rs.below hb, h.plan.below hb, h.asked.below hb⟩
/-- All its lists are at most so long. -/
structure SvBd (b : Nat) (g n m p q : Nat) (D : SvD) : Prop where
  bg : g ≤ b
  bn : n ≤ b
  bm : m ≤ b
  bp : p ≤ b
  bq : q ≤ b
  vs : ∀ j, j < n → (vN D.vs j).size ≤ b
  rs : ∀ j, j < m → (rV D.rs j).length ≤ b
  plan : ∀ j, j < p → (tX D.plan j).vars.length ≤ b ∧ (tX D.plan j).wh.length ≤ b
  asked : ∀ j, j < q → (tX D.asked j).vars.length ≤ b ∧ (tX D.asked j).wh.length ≤ b
/-- A server of the call's own, list behind list. -/
structure OwnSv (w : World) (lo hi : Nat) (P A Z Y Q : Option Addr) (g cg n c m cm p cp q cq : Nat) (D : SvD) : Prop where
  hcp : p ≤ cp
  hcq : q ≤ cq
  own : ∃ m1 m2 m3 m4 m5, lo ≤ m1 ∧ m1 ≤ m2 ∧ m2 ≤ m3 ∧ m3 ≤ m4 ∧ m4 ≤ m5 ∧ m5 ≤ hi ∧ OwnI w lo m1 P g cg D.par ∧ OwnV w m1 m2 A n c D.vs ∧ OwnRc w m2 m3 Z m cm D.rs ∧ OwnTs w m3 m4 Y p cp D.plan ∧ OwnTs w m5 hi Q q cq D.asked
/-- What the functions want of a server. -/
structure SvR (w : World) (P A Z Y Q : Option Addr) (g n c m p cp q cq : Nat) (D : SvD) : Prop where
  sur : SurR w P A Z g n c m D
  plan : TabsR w Y p D.plan
  asked : TabsR w Q q D.asked
  hcp : p ≤ cp
  hcq : q ≤ cq
section
variable {w w' : World} {lo hi : Nat} {P A Z Y Q : Option Addr} {g cg n c m cm p cp q cq : Nat} {D : SvD}
theorem SvR.below (h : SvR w P A Z Y Q g n c m p cp q cq D) (hb : Below w.heap.size w w') : SvR w' P A Z Y Q g n c m p cp q cq D := ⟨h.sur.below hb, h.plan.below hb, h.asked.below hb, h.hcp, h.hcq⟩
theorem OwnSv.below (h : OwnSv w lo hi P A Z Y Q g cg n c m cm p cp q cq D) (hb : Below w.heap.size w w') : OwnSv w' lo hi P A Z Y Q g cg n c m cm p cp q cq D := by
  obtain ⟨m1, m2, m3, m4, m5, h1, h2, h3, h4, h5, h6, o1, o2, o3, o4, o5⟩ := h.own
  exact ⟨h.hcp, h.hcq, m1, m2, m3, m4, m5, h1, h2, h3, h4, h5, h6, o1.below hb, o2.below hb, o3.below hb, o4.below hb, o5.below hb⟩
theorem OwnSv.chg {lo' hi' : Nat} (h : OwnSv w lo hi P A Z Y Q g cg n c m cm p cp q cq D) (hc : Chg lo' hi' w w') (hd : hi ≤ lo' ∨ hi' ≤ lo) : OwnSv w' lo hi P A Z Y Q g cg n c m cm p cp q cq D := by
  obtain ⟨m1, m2, m3, m4, m5, h1, h2, h3, h4, h5, h6, o1, o2, o3, o4, o5⟩ := h.own
  exact ⟨h.hcp, h.hcq, m1, m2, m3, m4, m5, h1, h2, h3, h4, h5, h6, o1.chg hc (by omega), o2.chg hc (by omega), o3.chg hc (by omega), o4.chg hc (by omega), o5.chg hc (by omega)⟩
theorem OwnSv.law (h : OwnSv w lo hi P A Z Y Q g cg n c m cm p cp q cq D) : LawSv w P A Z Y Q g n m p q D := by
  obtain ⟨m1, m2, m3, m4, m5, h1, h2, h3, h4, h5, h6, o1, o2, o3, o4, o5⟩ := h.own
  exact ⟨o1.ints, o2.vars, o3.recs, o4.tabsL, o5.tabsL⟩
theorem OwnSv.read (h : OwnSv w lo hi P A Z Y Q g cg n c m cm p cp q cq D) (hb : SvBd 1048576 g n m p q D) : SvR w P A Z Y Q g n c m p cp q cq D := by
  obtain ⟨m1, m2, m3, m4, m5, h1, h2, h3, h4, h5, h6, o1, o2, o3, o4, o5⟩ := h.own
  exact ⟨⟨o1.intR, o2.sch fun j hj => Nat.le_trans (hb.vs j hj) (by omega), o3.dat fun j hj => Nat.le_trans (hb.rs j hj) (by omega)⟩, o4.tabs fun j hj => ⟨Nat.le_trans (hb.plan j hj).1 (by omega), Nat.le_trans (hb.plan j hj).2 (by omega)⟩, o5.tabs fun j hj => ⟨Nat.le_trans (hb.asked j hj).1 (by omega), Nat.le_trans (hb.asked j hj).2 (by omega)⟩, h.hcp, h.hcq⟩
end

set_option maxRecDepth 100000 in
set_option maxHeartbeats 2000000 in
theorem szServer_any (P A Z Y Q : Option Addr) (g cg n c m cm p cp q cq : Nat) (D : SvD) (k0 : Int) (w : World) (hx : LawSv w P A Z Y Q g n m p q D) (hb : SvBd 9223372036854775807 g n m p q D) (h0 : 0 ≤ k0) (h1 : k0 ≤ 1048576) :
    Calls Tryz.prog 10 #[.agg #[.slice P g cg, .slice A n c, .slice Z m cm, .slice Y p cp, .int .i64 D.cost.a, .int .i64 D.cost.b, .int .i64 D.cost.c, .int .i64 D.cost.d, .int .i64 D.bud.a, .int .i64 D.bud.b, .int .i64 D.bud.c, .int .i64 D.bud.d, .int .i64 D.floor, .slice Q q cq], .int .i64 k0] w fun e w' => (∃ r, e = .returned (.int .i64 r) ∧ -1 ≤ r ∧ r ≤ k0 ∧ (0 ≤ r → SvBd 1048576 g n m p q D)) ∧ Below w.heap.size w w' := by
  have b0 := below_new w (.cells #[.slice P g cg, .slice A n c, .slice Z m cm, .slice Y p cp, .int .i64 D.cost.a, .int .i64 D.cost.b, .int .i64 D.cost.c, .int .i64 D.cost.d, .int .i64 D.bud.a, .int .i64 D.bud.b, .int .i64 D.bud.c, .int .i64 D.bud.d, .int .i64 D.floor, .slice Q q cq] 33)
  have Xs := Lib.hid (box_new w #[.slice P g cg, .slice A n c, .slice Z m cm, .slice Y p cp, .int .i64 D.cost.a, .int .i64 D.cost.b, .int .i64 D.cost.c, .int .i64 D.cost.d, .int .i64 D.bud.a, .int .i64 D.bud.b, .int .i64 D.bud.c, .int .i64 D.bud.d, .int .i64 D.floor, .slice Q q cq] 33)
  have HB := Lib.hid b0
  have HBD := Lib.hid hb
  have hg0 := hb.bg
  have hn0 := hb.bn
  have hm0 := hb.bm
  have hp0 := hb.bp
  have hq0 := hb.bq
  replace hx := hx.below b0
  clear b0 hb
  have F := szi_in g k0 h0
  go_enter Tryz.func10, Tryz.ntmps10
  have ls := lt_of_block Xs.out
  have cs0 := box_cell Xs.out 0 _ rfl
  go_wp2_with fail
  clear ls cs0
  generalize w.alloc (.cells #[.slice P g cg, .slice A n c, .slice Z m cm, .slice Y p cp, .int .i64 D.cost.a, .int .i64 D.cost.b, .int .i64 D.cost.c, .int .i64 D.cost.d, .int .i64 D.bud.a, .int .i64 D.bud.b, .int .i64 D.bud.c, .int .i64 D.bud.d, .int .i64 D.floor, .slice Q q cq] 33) = w0 at *
  have E := szi_two (m := g) (x := k0)
  refine (szGeo_any P g cg k0 _ hg0 h0 (by omega)).mono ?_
  rintro e w1 ⟨rfl, b1⟩
  replace Xs := Lib.hid (box_below Xs.out b1)
  replace hx := hx.below b1
  replace HB := Lib.hid (HB.out.trans (b1.mono HB.out.size))
  clear b1
  generalize szi g k0 = r1 at *
  by_cases hn1 : r1 < 0
  · clear E F
    go_wp2
    go_ret
    exact ⟨⟨-1, rfl, by omega, by omega, fun h => absurd h (by omega)⟩, HB.out⟩
  have e1 := E.2 (by omega)
  have f1 : (g : Int) ≤ k0 := by omega
  have f2 : r1 ≤ k0 := by omega
  clear E F e1
  have ls := lt_of_block Xs.out
  have cs1 := box_cell Xs.out 1 _ rfl
  go_wp2_with fail
  clear ls cs1
  refine (szVariableS_any A n c r1 D.vs _ hx.vs (fun j hj => HBD.out.vs j hj) hn0 (by omega) (by omega)).mono ?_
  rintro e w2 ⟨⟨r2, rfl, p2, q2, k2⟩, b2⟩
  replace Xs := Lib.hid (box_below Xs.out b2)
  replace hx := hx.below b2
  replace HB := Lib.hid (HB.out.trans (b2.mono HB.out.size))
  clear b2
  have K2 := Lib.hid k2
  clear k2
  by_cases hn2 : r2 < 0
  · go_wp2
    go_ret
    exact ⟨⟨-1, rfl, by omega, by omega, fun h => absurd h (by omega)⟩, HB.out⟩
  have ls := lt_of_block Xs.out
  have cs2 := box_cell Xs.out 2 _ rfl
  go_wp2_with fail
  clear ls cs2
  refine (szRecordS_any Z m cm r2 D.rs _ hx.rs (fun j hj => HBD.out.rs j hj) hm0 (by omega) (by omega)).mono ?_
  rintro e w3 ⟨⟨r3, rfl, p3, q3, k3⟩, b3⟩
  replace Xs := Lib.hid (box_below Xs.out b3)
  replace hx := hx.below b3
  replace HB := Lib.hid (HB.out.trans (b3.mono HB.out.size))
  clear b3
  have K3 := Lib.hid k3
  clear k3
  by_cases hn3 : r3 < 0
  · go_wp2
    go_ret
    exact ⟨⟨-1, rfl, by omega, by omega, fun h => absurd h (by omega)⟩, HB.out⟩
  have ls := lt_of_block Xs.out
  have cs3 := box_cell Xs.out 3 _ rfl
  go_wp2_with fail
  clear ls cs3
  refine (szTableS_any Y p cp r3 D.plan _ hx.plan (fun j hj => HBD.out.plan j hj) hp0 (by omega) (by omega)).mono ?_
  rintro e w4 ⟨⟨r4, rfl, p4, q4, k4⟩, b4⟩
  replace Xs := Lib.hid (box_below Xs.out b4)
  replace hx := hx.below b4
  replace HB := Lib.hid (HB.out.trans (b4.mono HB.out.size))
  clear b4
  have K4 := Lib.hid k4
  clear k4
  by_cases hn4 : r4 < 0
  · go_wp2
    go_ret
    exact ⟨⟨-1, rfl, by omega, by omega, fun h => absurd h (by omega)⟩, HB.out⟩
  have ls := lt_of_block Xs.out
  have cs13 := box_cell Xs.out 13 _ rfl
  go_wp2_with fail
  clear ls cs13
  refine (szTableS_any Q q cq r4 D.asked _ hx.asked (fun j hj => HBD.out.asked j hj) hq0 (by omega) (by omega)).mono ?_
  rintro e w5 ⟨⟨r5, rfl, p5, q5, k5⟩, b5⟩
  replace Xs := Lib.hid (box_below Xs.out b5)
  replace hx := hx.below b5
  replace HB := Lib.hid (HB.out.trans (b5.mono HB.out.size))
  clear b5
  have K5 := Lib.hid k5
  clear k5
  by_cases hn5 : r5 < 0
  · go_wp2
    go_ret
    exact ⟨⟨-1, rfl, by omega, by omega, fun h => absurd h (by omega)⟩, HB.out⟩
  have B : SvBd 1048576 g n m p q D := by
    have a2 := K2.out (by omega)
    have a3 := K3.out (by omega)
    have a4 := K4.out (by omega)
    have a5 := K5.out (by omega)
    exact ⟨by omega, by omega, by omega, by omega, by omega, fun j hj => by have := a2.2 j hj; omega, fun j hj => by have := a3.2 j hj; omega, fun j hj => by have := a4.2 j hj; omega, fun j hj => by have := a5.2 j hj; omega⟩
  have HBB := Lib.hid B
  clear B
  go_wp2
  go_ret
  exact ⟨⟨r5, rfl, by omega, by omega, fun _ => HBB.out⟩, HB.out⟩

set_option maxRecDepth 100000 in
set_option maxHeartbeats 2000000 in
theorem eqServer_any (P A Z Y Q : Option Addr) (g cg n c m cm p cp q cq : Nat) (D : SvD) (P' A' Z' Y' Q' : Option Addr) (cg' c' cm' cp' cq' : Nat) (w : World) (hx : LawSv w P A Z Y Q g n m p q D) (hy : LawSv w P' A' Z' Y' Q' g n m p q D) (hb : SvBd 1048576 g n m p q D) :
    Calls Tryz.prog 14 #[.agg #[.slice P g cg, .slice A n c, .slice Z m cm, .slice Y p cp, .int .i64 D.cost.a, .int .i64 D.cost.b, .int .i64 D.cost.c, .int .i64 D.cost.d, .int .i64 D.bud.a, .int .i64 D.bud.b, .int .i64 D.bud.c, .int .i64 D.bud.d, .int .i64 D.floor, .slice Q q cq], .agg #[.slice P' g cg', .slice A' n c', .slice Z' m cm', .slice Y' p cp', .int .i64 D.cost.a, .int .i64 D.cost.b, .int .i64 D.cost.c, .int .i64 D.cost.d, .int .i64 D.bud.a, .int .i64 D.bud.b, .int .i64 D.bud.c, .int .i64 D.bud.d, .int .i64 D.floor, .slice Q' q cq']] w fun e w' => e = .returned (.bool true) ∧ Below w.heap.size w w' := by
  obtain ⟨b0, xs, xt⟩ := box_two w #[.slice P g cg, .slice A n c, .slice Z m cm, .slice Y p cp, .int .i64 D.cost.a, .int .i64 D.cost.b, .int .i64 D.cost.c, .int .i64 D.cost.d, .int .i64 D.bud.a, .int .i64 D.bud.b, .int .i64 D.bud.c, .int .i64 D.bud.d, .int .i64 D.floor, .slice Q q cq] #[.slice P' g cg', .slice A' n c', .slice Z' m cm', .slice Y' p cp', .int .i64 D.cost.a, .int .i64 D.cost.b, .int .i64 D.cost.c, .int .i64 D.cost.d, .int .i64 D.bud.a, .int .i64 D.bud.b, .int .i64 D.bud.c, .int .i64 D.bud.d, .int .i64 D.floor, .slice Q' q cq'] 44 44
  have Xs := Lib.hid xs
  have Xt := Lib.hid xt
  have HB := Lib.hid b0
  have HBD := Lib.hid hb
  have hg0 := hb.bg
  have hn0 := hb.bn
  have hm0 := hb.bm
  have hp0 := hb.bp
  have hq0 := hb.bq
  replace hx := hx.below b0
  replace hy := hy.below b0
  clear b0 hb xs xt
  have hfl : (D.floor != D.floor) = false := by simp
  go_enter Tryz.func14, Tryz.ntmps14
  have ls := lt_of_block Xs.out
  have cs0 := box_cell Xs.out 0 _ rfl
  have lt := lt_of_block Xt.out
  have ct0 := box_cell Xt.out 0 _ rfl
  go_wp2_with fail
  clear ls cs0 lt ct0
  generalize (w.alloc (.cells #[.slice P g cg, .slice A n c, .slice Z m cm, .slice Y p cp, .int .i64 D.cost.a, .int .i64 D.cost.b, .int .i64 D.cost.c, .int .i64 D.cost.d, .int .i64 D.bud.a, .int .i64 D.bud.b, .int .i64 D.bud.c, .int .i64 D.bud.d, .int .i64 D.floor, .slice Q q cq] 44)).alloc (.cells #[.slice P' g cg', .slice A' n c', .slice Z' m cm', .slice Y' p cp', .int .i64 D.cost.a, .int .i64 D.cost.b, .int .i64 D.cost.c, .int .i64 D.cost.d, .int .i64 D.bud.a, .int .i64 D.bud.b, .int .i64 D.bud.c, .int .i64 D.bud.d, .int .i64 D.floor, .slice Q' q cq'] 44) = w0 at *
  refine (eqGeo_T P P' g cg cg' D.par _ hx.par hy.par (by omega)).mono ?_
  rintro e w1 ⟨rfl, b1⟩
  replace Xs := Lib.hid (box_below Xs.out b1)
  replace Xt := Lib.hid (box_below Xt.out b1)
  replace hx := hx.below b1
  replace hy := hy.below b1
  replace HB := Lib.hid (HB.out.trans (b1.mono HB.out.size))
  clear b1
  have ls := lt_of_block Xs.out
  have cs1 := box_cell Xs.out 1 _ rfl
  have lt := lt_of_block Xt.out
  have ct1 := box_cell Xt.out 1 _ rfl
  go_wp2_with fail
  clear ls cs1 lt ct1
  refine (eqVariableS_any A A' n c c' D.vs _ hx.vs hy.vs (by omega)).mono ?_
  rintro e w2 ⟨rfl, b2⟩
  replace Xs := Lib.hid (box_below Xs.out b2)
  replace Xt := Lib.hid (box_below Xt.out b2)
  replace hx := hx.below b2
  replace hy := hy.below b2
  replace HB := Lib.hid (HB.out.trans (b2.mono HB.out.size))
  clear b2
  have ls := lt_of_block Xs.out
  have cs2 := box_cell Xs.out 2 _ rfl
  have lt := lt_of_block Xt.out
  have ct2 := box_cell Xt.out 2 _ rfl
  go_wp2_with fail
  clear ls cs2 lt ct2
  refine (eqRecordS_any Z Z' m cm cm' D.rs _ hx.rs hy.rs (by omega) (fun j hj => Nat.le_trans (HBD.out.rs j hj) (by omega))).mono ?_
  rintro e w3 ⟨rfl, b3⟩
  replace Xs := Lib.hid (box_below Xs.out b3)
  replace Xt := Lib.hid (box_below Xt.out b3)
  replace hx := hx.below b3
  replace hy := hy.below b3
  replace HB := Lib.hid (HB.out.trans (b3.mono HB.out.size))
  clear b3
  have ls := lt_of_block Xs.out
  have cs3 := box_cell Xs.out 3 _ rfl
  have lt := lt_of_block Xt.out
  have ct3 := box_cell Xt.out 3 _ rfl
  go_wp2_with fail
  clear ls cs3 lt ct3
  refine (eqTableS_any Y Y' p cp cp' D.plan _ hx.plan hy.plan (by omega) (fun j hj => ⟨Nat.le_trans ((HBD.out.plan j hj).1) (by omega), Nat.le_trans ((HBD.out.plan j hj).2) (by omega)⟩)).mono ?_
  rintro e w4 ⟨rfl, b4⟩
  replace Xs := Lib.hid (box_below Xs.out b4)
  replace Xt := Lib.hid (box_below Xt.out b4)
  replace hx := hx.below b4
  replace hy := hy.below b4
  replace HB := Lib.hid (HB.out.trans (b4.mono HB.out.size))
  clear b4
  have ls := lt_of_block Xs.out
  have cs4 := box_cell Xs.out 4 _ rfl
  have cs5 := box_cell Xs.out 5 _ rfl
  have cs6 := box_cell Xs.out 6 _ rfl
  have cs7 := box_cell Xs.out 7 _ rfl
  have lt := lt_of_block Xt.out
  have ct4 := box_cell Xt.out 4 _ rfl
  have ct5 := box_cell Xt.out 5 _ rfl
  have ct6 := box_cell Xt.out 6 _ rfl
  have ct7 := box_cell Xt.out 7 _ rfl
  go_wp2_with fail
  clear ls cs4 cs5 cs6 cs7 lt ct4 ct5 ct6 ct7
  refine (eqLoss_T D.cost _).mono ?_
  rintro e w5 ⟨rfl, b5⟩
  replace Xs := Lib.hid (box_below Xs.out b5)
  replace Xt := Lib.hid (box_below Xt.out b5)
  replace hx := hx.below b5
  replace hy := hy.below b5
  replace HB := Lib.hid (HB.out.trans (b5.mono HB.out.size))
  clear b5
  have ls := lt_of_block Xs.out
  have cs8 := box_cell Xs.out 8 _ rfl
  have cs9 := box_cell Xs.out 9 _ rfl
  have cs10 := box_cell Xs.out 10 _ rfl
  have cs11 := box_cell Xs.out 11 _ rfl
  have lt := lt_of_block Xt.out
  have ct8 := box_cell Xt.out 8 _ rfl
  have ct9 := box_cell Xt.out 9 _ rfl
  have ct10 := box_cell Xt.out 10 _ rfl
  have ct11 := box_cell Xt.out 11 _ rfl
  go_wp2_with fail
  clear ls cs8 cs9 cs10 cs11 lt ct8 ct9 ct10 ct11
  refine (eqLoss_T D.bud _).mono ?_
  rintro e w6 ⟨rfl, b6⟩
  replace Xs := Lib.hid (box_below Xs.out b6)
  replace Xt := Lib.hid (box_below Xt.out b6)
  replace hx := hx.below b6
  replace hy := hy.below b6
  replace HB := Lib.hid (HB.out.trans (b6.mono HB.out.size))
  clear b6
  have ls := lt_of_block Xs.out
  have cs12 := box_cell Xs.out 12 _ rfl
  have cs13 := box_cell Xs.out 13 _ rfl
  have lt := lt_of_block Xt.out
  have ct12 := box_cell Xt.out 12 _ rfl
  have ct13 := box_cell Xt.out 13 _ rfl
  go_wp2_with fail
  clear ls cs12 cs13 lt ct12 ct13
  refine (eqTableS_any Q Q' q cq cq' D.asked _ hx.asked hy.asked (by omega) (fun j hj => ⟨Nat.le_trans ((HBD.out.asked j hj).1) (by omega), Nat.le_trans ((HBD.out.asked j hj).2) (by omega)⟩)).mono ?_
  rintro e w7 ⟨rfl, b7⟩
  replace Xs := Lib.hid (box_below Xs.out b7)
  replace Xt := Lib.hid (box_below Xt.out b7)
  replace hx := hx.below b7
  replace hy := hy.below b7
  replace HB := Lib.hid (HB.out.trans (b7.mono HB.out.size))
  clear b7
  go_wp2
  go_ret
  exact ⟨rfl, HB.out⟩
end

section
open Go.RowKit

/-- Stores into one block. -/
def puts (w : World) (g : Nat) (l : List (Nat × Value)) : World := l.foldl (fun u p => u.setCell ⟨g, p.1, none⟩ p.2) w
theorem puts_ne {g h : Nat} : ∀ (l : List (Nat × Value)) (w : World), h ≠ g → (puts w g l).heap[h]? = w.heap[h]? := by
  intro l
  induction l with
  | nil => intro w _; rfl
  | cons p l ih => intro w hne; exact (ih (w.setCell ⟨g, p.1, none⟩ p.2) hne).trans (Below.heap_setCell w ⟨g, p.1, none⟩ p.2 h hne)
theorem puts_below {w0 : World} {B g : Nat} : ∀ (l : List (Nat × Value)) (w : World), Below B w0 w → B ≤ g → Below B w0 (puts w g l) := by
  intro l
  induction l with
  | nil => intro w h _; exact h
  | cons p l ih => intro w h hg; exact ih (w.setCell ⟨g, p.1, none⟩ p.2) (h.setCell (by exact hg) _) hg
theorem puts_chg {lo hi g : Nat} {w0 : World} : ∀ (l : List (Nat × Value)) (w : World), Chg lo hi w0 w → lo ≤ g → g < hi → Chg lo hi w0 (puts w g l) := by
  intro l
  induction l with
  | nil => intro w h _ _; exact h
  | cons p l ih => intro w h h1 h2; exact ih (w.setCell ⟨g, p.1, none⟩ p.2) (h.set h1 h2) h1 h2
theorem puts_size {g : Nat} : ∀ (l : List (Nat × Value)) (w : World), (puts w g l).heap.size = w.heap.size := by
  intro l
  induction l with
  | nil => intro w; rfl
  | cons p l ih => intro w; exact (ih (w.setCell ⟨g, p.1, none⟩ p.2)).trans (by simp)

set_option maxRecDepth 100000 in
set_option maxHeartbeats 2000000 in
theorem toServer_law (P A Z Y Q : Option Addr) (g cg n c m cm p cp q cq : Nat) (D : SvD) (w : World) (hx : LawSv w P A Z Y Q g n m p q D) (hb : SvBd 1048576 g n m p q D) :
    Calls Tryz.prog 12 #[.agg #[.slice P g cg, .slice A n c, .slice Z m cm, .slice Y p cp, .int .i64 D.cost.a, .int .i64 D.cost.b, .int .i64 D.cost.c, .int .i64 D.cost.d, .int .i64 D.bud.a, .int .i64 D.bud.b, .int .i64 D.bud.c, .int .i64 D.bud.d, .int .i64 D.floor, .slice Q q cq]] w fun e w' => ∃ P' A' Z' Y' Q' cg' c' cm' cp' cq', e = .returned (.agg #[.slice P' g cg', .slice A' n c', .slice Z' m cm', .slice Y' p cp', .int .i64 D.cost.a, .int .i64 D.cost.b, .int .i64 D.cost.c, .int .i64 D.cost.d, .int .i64 D.bud.a, .int .i64 D.bud.b, .int .i64 D.bud.c, .int .i64 D.bud.d, .int .i64 D.floor, .slice Q' q cq']) ∧ OwnSv w' w.heap.size w'.heap.size P' A' Z' Y' Q' g cg' n c' m cm' p cp' q cq' D ∧ Below w.heap.size w w' := by
  obtain ⟨b0, x1, x2, x3, S⟩ := box_three w #[.slice P g cg, .slice A n c, .slice Z m cm, .slice Y p cp, .int .i64 D.cost.a, .int .i64 D.cost.b, .int .i64 D.cost.c, .int .i64 D.cost.d, .int .i64 D.bud.a, .int .i64 D.bud.b, .int .i64 D.bud.c, .int .i64 D.bud.d, .int .i64 D.floor, .slice Q q cq] #[.slice none 0 0, .slice none 0 0, .slice none 0 0, .slice none 0 0, .int .i64 0, .int .i64 0, .int .i64 0, .int .i64 0, .int .i64 0, .int .i64 0, .int .i64 0, .int .i64 0, .int .i64 0, .slice none 0 0] #[.slice none 0 0, .slice none 0 0, .slice none 0 0, .slice none 0 0, .int .i64 0, .int .i64 0, .int .i64 0, .int .i64 0, .int .i64 0, .int .i64 0, .int .i64 0, .int .i64 0, .int .i64 0, .slice none 0 0] 33 44 44
  have HS := Lib.hid S
  have HX := Lib.hid hx
  have HBD := Lib.hid hb
  have hg0 := hb.bg
  have hn0 := hb.bn
  have hm0 := hb.bm
  have hp0 := hb.bp
  have hq0 := hb.bq
  clear S hx hb
  have Y1 := Lib.hid x1
  have Y2 := Lib.hid x2
  have Y3 := Lib.hid x3
  have HB := Lib.hid b0
  clear x1 x2 x3 b0
  go_enter Tryz.func12, Tryz.ntmps12
  have l1 := lt_of_block Y1.out
  have l3 := lt_of_block Y3.out
  have c10 := box_cell Y1.out 0 _ rfl
  go_wp2_with fail
  clear l1 l3 c10
  generalize (((w.alloc (.cells #[.slice P g cg, .slice A n c, .slice Z m cm, .slice Y p cp, .int .i64 D.cost.a, .int .i64 D.cost.b, .int .i64 D.cost.c, .int .i64 D.cost.d, .int .i64 D.bud.a, .int .i64 D.bud.b, .int .i64 D.bud.c, .int .i64 D.bud.d, .int .i64 D.floor, .slice Q q cq] 33)).alloc (.cells #[.slice none 0 0, .slice none 0 0, .slice none 0 0, .slice none 0 0, .int .i64 0, .int .i64 0, .int .i64 0, .int .i64 0, .int .i64 0, .int .i64 0, .int .i64 0, .int .i64 0, .int .i64 0, .slice none 0 0] 44)).alloc (.cells #[.slice none 0 0, .slice none 0 0, .slice none 0 0, .slice none 0 0, .int .i64 0, .int .i64 0, .int .i64 0, .int .i64 0, .int .i64 0, .int .i64 0, .int .i64 0, .int .i64 0, .int .i64 0, .slice none 0 0] 44)) = w1 at *
  refine (toGeo_any P g cg D.par _ (HX.out.below HB.out).par (by omega)).mono ?_
  rintro e w2 ⟨P', cg', rfl, o0, bb⟩
  have HLO := Lib.hid (show w.heap.size + 1 + 1 + 1 ≤ w2.heap.size by have := bb.size; rw [HS.out] at this; exact this)
  have HL1 := Lib.hid (show w.heap.size + 1 + 1 + 1 ≤ w1.heap.size by rw [HS.out]; exact Nat.le_refl _)
  replace o0 := Lib.hid o0
  replace Y1 := Lib.hid (box_below Y1.out bb)
  replace Y2 := Lib.hid (box_below Y2.out bb)
  replace Y3 := Lib.hid (box_below Y3.out bb)
  replace HB := Lib.hid (HB.out.trans (bb.mono HB.out.size))
  clear bb
  have l1 := lt_of_block Y1.out
  have l3 := lt_of_block Y3.out
  have c11 := box_cell Y1.out 1 _ rfl
  have c30 := box_cell Y3.out 0 _ rfl
  have f30 := box_free Y3.out 0
  go_wp2_with fail
  clear l1 l3 c11 c30 f30
  have Z1 := Lib.hid (show ((w2).setCell ⟨w.heap.size + 1 + 1, 0, none⟩ (.slice P' g cg')).heap[w.heap.size]? = _ from (puts_ne (g := w.heap.size + 1 + 1) [(0, .slice P' g cg')] w2 (by omega)).trans Y1.out)
  have Z2 := Lib.hid (show ((w2).setCell ⟨w.heap.size + 1 + 1, 0, none⟩ (.slice P' g cg')).heap[w.heap.size + 1]? = _ from (puts_ne (g := w.heap.size + 1 + 1) [(0, .slice P' g cg')] w2 (by omega)).trans Y2.out)
  have Z3 := Lib.hid (show ((w2).setCell ⟨w.heap.size + 1 + 1, 0, none⟩ (.slice P' g cg')).heap[w.heap.size + 1 + 1]? = some (.cells #[.slice P' g cg', .slice none 0 0, .slice none 0 0, .slice none 0 0, .int .i64 0, .int .i64 0, .int .i64 0, .int .i64 0, .int .i64 0, .int .i64 0, .int .i64 0, .int .i64 0, .int .i64 0, .slice none 0 0] 44 (0, 0)) from (box_set Y3.out 0 (.slice P' g cg')))
  have ZB := Lib.hid (show Below w.heap.size w ((w2).setCell ⟨w.heap.size + 1 + 1, 0, none⟩ (.slice P' g cg')) from puts_below [(0, .slice P' g cg')] w2 HB.out (by omega))
  have ZC := Lib.hid (show Chg (w.heap.size + 1) (w.heap.size + 1 + 1 + 1) w2 ((w2).setCell ⟨w.heap.size + 1 + 1, 0, none⟩ (.slice P' g cg')) from puts_chg [(0, .slice P' g cg')] w2 (Chg.refl _ _ _) (by omega) (by omega))
  have ZS := Lib.hid (show ((w2).setCell ⟨w.heap.size + 1 + 1, 0, none⟩ (.slice P' g cg')).heap.size = w2.heap.size from puts_size [(0, .slice P' g cg')] w2)
  have zo0 := Lib.hid (o0.out.chg ZC.out (.inr (by have a0 := HLO.out; have a1 := HL1.out; omega)))
  clear Y1 Y2 Y3 HB ZC o0
  generalize (w2).setCell ⟨w.heap.size + 1 + 1, 0, none⟩ (.slice P' g cg') = u1 at *
  have Y1 := Z1
  have Y2 := Z2
  have Y3 := Z3
  have HB := ZB
  clear Z1 Z2 Z3 ZB
  have o0 := zo0
  clear zo0
  refine (toVariableS_law A n c D.vs _ (HX.out.below HB.out).vs (by omega)).mono ?_
  rintro e w3 ⟨A', c', rfl, o1, bb⟩
  rw [ZS.out] at o1
  have HZ1 := Lib.hid (show w2.heap.size ≤ w3.heap.size by have := bb.size; rw [ZS.out] at this; exact this)
  clear ZS
  replace o0 := Lib.hid (o0.out.below bb)
  replace o1 := Lib.hid o1
  replace Y1 := Lib.hid (box_below Y1.out bb)
  replace Y2 := Lib.hid (box_below Y2.out bb)
  replace Y3 := Lib.hid (box_below Y3.out bb)
  replace HB := Lib.hid (HB.out.trans (bb.mono HB.out.size))
  clear bb
  have l1 := lt_of_block Y1.out
  have l3 := lt_of_block Y3.out
  have c12 := box_cell Y1.out 2 _ rfl
  have c31 := box_cell Y3.out 1 _ rfl
  have f31 := box_free Y3.out 1
  go_wp2_with fail
  clear l1 l3 c12 c31 f31
  have Z1 := Lib.hid (show ((w3).setCell ⟨w.heap.size + 1 + 1, 1, none⟩ (.slice A' n c')).heap[w.heap.size]? = _ from (puts_ne (g := w.heap.size + 1 + 1) [(1, .slice A' n c')] w3 (by omega)).trans Y1.out)
  have Z2 := Lib.hid (show ((w3).setCell ⟨w.heap.size + 1 + 1, 1, none⟩ (.slice A' n c')).heap[w.heap.size + 1]? = _ from (puts_ne (g := w.heap.size + 1 + 1) [(1, .slice A' n c')] w3 (by omega)).trans Y2.out)
  have Z3 := Lib.hid (show ((w3).setCell ⟨w.heap.size + 1 + 1, 1, none⟩ (.slice A' n c')).heap[w.heap.size + 1 + 1]? = some (.cells #[.slice P' g cg', .slice A' n c', .slice none 0 0, .slice none 0 0, .int .i64 0, .int .i64 0, .int .i64 0, .int .i64 0, .int .i64 0, .int .i64 0, .int .i64 0, .int .i64 0, .int .i64 0, .slice none 0 0] 44 (0, 0)) from (box_set Y3.out 1 (.slice A' n c')))
  have ZB := Lib.hid (show Below w.heap.size w ((w3).setCell ⟨w.heap.size + 1 + 1, 1, none⟩ (.slice A' n c')) from puts_below [(1, .slice A' n c')] w3 HB.out (by omega))
  have ZC := Lib.hid (show Chg (w.heap.size + 1) (w.heap.size + 1 + 1 + 1) w3 ((w3).setCell ⟨w.heap.size + 1 + 1, 1, none⟩ (.slice A' n c')) from puts_chg [(1, .slice A' n c')] w3 (Chg.refl _ _ _) (by omega) (by omega))
  have ZS := Lib.hid (show ((w3).setCell ⟨w.heap.size + 1 + 1, 1, none⟩ (.slice A' n c')).heap.size = w3.heap.size from puts_size [(1, .slice A' n c')] w3)
  have zo0 := Lib.hid (o0.out.chg ZC.out (.inr (by have a0 := HLO.out; have a1 := HL1.out; have a2 := HZ1.out; omega)))
  have zo1 := Lib.hid (o1.out.chg ZC.out (.inr (by have a0 := HLO.out; have a1 := HL1.out; have a2 := HZ1.out; omega)))
  clear Y1 Y2 Y3 HB ZC o0 o1
  generalize (w3).setCell ⟨w.heap.size + 1 + 1, 1, none⟩ (.slice A' n c') = u2 at *
  have Y1 := Z1
  have Y2 := Z2
  have Y3 := Z3
  have HB := ZB
  clear Z1 Z2 Z3 ZB
  have o0 := zo0
  clear zo0
  have o1 := zo1
  clear zo1
  refine (toRecordS_law Z m cm D.rs _ (HX.out.below HB.out).rs (by omega) (fun j hj => Nat.le_trans (HBD.out.rs j hj) (by omega))).mono ?_
  rintro e w4 ⟨Z', cm', rfl, o2, bb⟩
  rw [ZS.out] at o2
  have HZ2 := Lib.hid (show w3.heap.size ≤ w4.heap.size by have := bb.size; rw [ZS.out] at this; exact this)
  clear ZS
  replace o0 := Lib.hid (o0.out.below bb)
  replace o1 := Lib.hid (o1.out.below bb)
  replace o2 := Lib.hid o2
  replace Y1 := Lib.hid (box_below Y1.out bb)
  replace Y2 := Lib.hid (box_below Y2.out bb)
  replace Y3 := Lib.hid (box_below Y3.out bb)
  replace HB := Lib.hid (HB.out.trans (bb.mono HB.out.size))
  clear bb
  have l1 := lt_of_block Y1.out
  have l3 := lt_of_block Y3.out
  have c13 := box_cell Y1.out 3 _ rfl
  have c32 := box_cell Y3.out 2 _ rfl
  have f32 := box_free Y3.out 2
  go_wp2_with fail
  clear l1 l3 c13 c32 f32
  have Z1 := Lib.hid (show ((w4).setCell ⟨w.heap.size + 1 + 1, 2, none⟩ (.slice Z' m cm')).heap[w.heap.size]? = _ from (puts_ne (g := w.heap.size + 1 + 1) [(2, .slice Z' m cm')] w4 (by omega)).trans Y1.out)
  have Z2 := Lib.hid (show ((w4).setCell ⟨w.heap.size + 1 + 1, 2, none⟩ (.slice Z' m cm')).heap[w.heap.size + 1]? = _ from (puts_ne (g := w.heap.size + 1 + 1) [(2, .slice Z' m cm')] w4 (by omega)).trans Y2.out)
  have Z3 := Lib.hid (show ((w4).setCell ⟨w.heap.size + 1 + 1, 2, none⟩ (.slice Z' m cm')).heap[w.heap.size + 1 + 1]? = some (.cells #[.slice P' g cg', .slice A' n c', .slice Z' m cm', .slice none 0 0, .int .i64 0, .int .i64 0, .int .i64 0, .int .i64 0, .int .i64 0, .int .i64 0, .int .i64 0, .int .i64 0, .int .i64 0, .slice none 0 0] 44 (0, 0)) from (box_set Y3.out 2 (.slice Z' m cm')))
  have ZB := Lib.hid (show Below w.heap.size w ((w4).setCell ⟨w.heap.size + 1 + 1, 2, none⟩ (.slice Z' m cm')) from puts_below [(2, .slice Z' m cm')] w4 HB.out (by omega))
  have ZC := Lib.hid (show Chg (w.heap.size + 1) (w.heap.size + 1 + 1 + 1) w4 ((w4).setCell ⟨w.heap.size + 1 + 1, 2, none⟩ (.slice Z' m cm')) from puts_chg [(2, .slice Z' m cm')] w4 (Chg.refl _ _ _) (by omega) (by omega))
  have ZS := Lib.hid (show ((w4).setCell ⟨w.heap.size + 1 + 1, 2, none⟩ (.slice Z' m cm')).heap.size = w4.heap.size from puts_size [(2, .slice Z' m cm')] w4)
  have zo0 := Lib.hid (o0.out.chg ZC.out (.inr (by have a0 := HLO.out; have a1 := HL1.out; have a2 := HZ1.out; have a3 := HZ2.out; omega)))
  have zo1 := Lib.hid (o1.out.chg ZC.out (.inr (by have a0 := HLO.out; have a1 := HL1.out; have a2 := HZ1.out; have a3 := HZ2.out; omega)))
  have zo2 := Lib.hid (o2.out.chg ZC.out (.inr (by have a0 := HLO.out; have a1 := HL1.out; have a2 := HZ1.out; have a3 := HZ2.out; omega)))
  clear Y1 Y2 Y3 HB ZC o0 o1 o2
  generalize (w4).setCell ⟨w.heap.size + 1 + 1, 2, none⟩ (.slice Z' m cm') = u3 at *
  have Y1 := Z1
  have Y2 := Z2
  have Y3 := Z3
  have HB := ZB
  clear Z1 Z2 Z3 ZB
  have o0 := zo0
  clear zo0
  have o1 := zo1
  clear zo1
  have o2 := zo2
  clear zo2
  refine (toTableS_law Y p cp D.plan _ (HX.out.below HB.out).plan (by omega) (fun j hj => ⟨Nat.le_trans ((HBD.out.plan j hj).1) (by omega), Nat.le_trans ((HBD.out.plan j hj).2) (by omega)⟩)).mono ?_
  rintro e w5 ⟨Y', cp', rfl, hcp, o3, bb⟩
  rw [ZS.out] at o3
  have HZ3 := Lib.hid (show w4.heap.size ≤ w5.heap.size by have := bb.size; rw [ZS.out] at this; exact this)
  clear ZS
  replace o0 := Lib.hid (o0.out.below bb)
  replace o1 := Lib.hid (o1.out.below bb)
  replace o2 := Lib.hid (o2.out.below bb)
  replace o3 := Lib.hid o3
  replace Y1 := Lib.hid (box_below Y1.out bb)
  replace Y2 := Lib.hid (box_below Y2.out bb)
  replace Y3 := Lib.hid (box_below Y3.out bb)
  replace HB := Lib.hid (HB.out.trans (bb.mono HB.out.size))
  clear bb
  have l1 := lt_of_block Y1.out
  have l3 := lt_of_block Y3.out
  have c14 := box_cell Y1.out 4 _ rfl
  have c15 := box_cell Y1.out 5 _ rfl
  have c16 := box_cell Y1.out 6 _ rfl
  have c17 := box_cell Y1.out 7 _ rfl
  have c33 := box_cell Y3.out 3 _ rfl
  have f33 := box_free Y3.out 3
  go_wp2_with fail
  clear l1 l3 c14 c15 c16 c17 c33 f33
  have Z1 := Lib.hid (show ((w5).setCell ⟨w.heap.size + 1 + 1, 3, none⟩ (.slice Y' p cp')).heap[w.heap.size]? = _ from (puts_ne (g := w.heap.size + 1 + 1) [(3, .slice Y' p cp')] w5 (by omega)).trans Y1.out)
  have Z2 := Lib.hid (show ((w5).setCell ⟨w.heap.size + 1 + 1, 3, none⟩ (.slice Y' p cp')).heap[w.heap.size + 1]? = _ from (puts_ne (g := w.heap.size + 1 + 1) [(3, .slice Y' p cp')] w5 (by omega)).trans Y2.out)
  have Z3 := Lib.hid (show ((w5).setCell ⟨w.heap.size + 1 + 1, 3, none⟩ (.slice Y' p cp')).heap[w.heap.size + 1 + 1]? = some (.cells #[.slice P' g cg', .slice A' n c', .slice Z' m cm', .slice Y' p cp', .int .i64 0, .int .i64 0, .int .i64 0, .int .i64 0, .int .i64 0, .int .i64 0, .int .i64 0, .int .i64 0, .int .i64 0, .slice none 0 0] 44 (0, 0)) from (box_set Y3.out 3 (.slice Y' p cp')))
  have ZB := Lib.hid (show Below w.heap.size w ((w5).setCell ⟨w.heap.size + 1 + 1, 3, none⟩ (.slice Y' p cp')) from puts_below [(3, .slice Y' p cp')] w5 HB.out (by omega))
  have ZC := Lib.hid (show Chg (w.heap.size + 1) (w.heap.size + 1 + 1 + 1) w5 ((w5).setCell ⟨w.heap.size + 1 + 1, 3, none⟩ (.slice Y' p cp')) from puts_chg [(3, .slice Y' p cp')] w5 (Chg.refl _ _ _) (by omega) (by omega))
  have ZS := Lib.hid (show ((w5).setCell ⟨w.heap.size + 1 + 1, 3, none⟩ (.slice Y' p cp')).heap.size = w5.heap.size from puts_size [(3, .slice Y' p cp')] w5)
  have zo0 := Lib.hid (o0.out.chg ZC.out (.inr (by have a0 := HLO.out; have a1 := HL1.out; have a2 := HZ1.out; have a3 := HZ2.out; have a4 := HZ3.out; omega)))
  have zo1 := Lib.hid (o1.out.chg ZC.out (.inr (by have a0 := HLO.out; have a1 := HL1.out; have a2 := HZ1.out; have a3 := HZ2.out; have a4 := HZ3.out; omega)))
  have zo2 := Lib.hid (o2.out.chg ZC.out (.inr (by have a0 := HLO.out; have a1 := HL1.out; have a2 := HZ1.out; have a3 := HZ2.out; have a4 := HZ3.out; omega)))
  have zo3 := Lib.hid (o3.out.chg ZC.out (.inr (by have a0 := HLO.out; have a1 := HL1.out; have a2 := HZ1.out; have a3 := HZ2.out; have a4 := HZ3.out; omega)))
  clear Y1 Y2 Y3 HB ZC o0 o1 o2 o3
  generalize (w5).setCell ⟨w.heap.size + 1 + 1, 3, none⟩ (.slice Y' p cp') = u4 at *
  have Y1 := Z1
  have Y2 := Z2
  have Y3 := Z3
  have HB := ZB
  clear Z1 Z2 Z3 ZB
  have o0 := zo0
  clear zo0
  have o1 := zo1
  clear zo1
  have o2 := zo2
  clear zo2
  have o3 := zo3
  clear zo3
  refine (toLoss_any D.cost _).mono ?_
  rintro e w6 ⟨rfl, bb⟩
  have HZ4 := Lib.hid (show w5.heap.size ≤ w6.heap.size by have := bb.size; rw [ZS.out] at this; exact this)
  clear ZS
  replace o0 := Lib.hid (o0.out.below bb)
  replace o1 := Lib.hid (o1.out.below bb)
  replace o2 := Lib.hid (o2.out.below bb)
  replace o3 := Lib.hid (o3.out.below bb)
  replace Y1 := Lib.hid (box_below Y1.out bb)
  replace Y2 := Lib.hid (box_below Y2.out bb)
  replace Y3 := Lib.hid (box_below Y3.out bb)
  replace HB := Lib.hid (HB.out.trans (bb.mono HB.out.size))
  clear bb
  have l1 := lt_of_block Y1.out
  have l3 := lt_of_block Y3.out
  have c18 := box_cell Y1.out 8 _ rfl
  have c19 := box_cell Y1.out 9 _ rfl
  have c110 := box_cell Y1.out 10 _ rfl
  have c111 := box_cell Y1.out 11 _ rfl
  have c34 := box_cell Y3.out 4 _ rfl
  have f34 := box_free Y3.out 4
  have c35 := box_cell Y3.out 5 _ rfl
  have f35 := box_free Y3.out 5
  have c36 := box_cell Y3.out 6 _ rfl
  have f36 := box_free Y3.out 6
  have c37 := box_cell Y3.out 7 _ rfl
  have f37 := box_free Y3.out 7
  go_wp2_with fail
  clear l1 l3 c18 c19 c110 c111 c34 f34 c35 f35 c36 f36 c37 f37
  have Z1 := Lib.hid (show (((((w6).setCell ⟨w.heap.size + 1 + 1, 4, none⟩ (.int .i64 D.cost.a)).setCell ⟨w.heap.size + 1 + 1, 5, none⟩ (.int .i64 D.cost.b)).setCell ⟨w.heap.size + 1 + 1, 6, none⟩ (.int .i64 D.cost.c)).setCell ⟨w.heap.size + 1 + 1, 7, none⟩ (.int .i64 D.cost.d)).heap[w.heap.size]? = _ from (puts_ne (g := w.heap.size + 1 + 1) [(4, .int .i64 D.cost.a), (5, .int .i64 D.cost.b), (6, .int .i64 D.cost.c), (7, .int .i64 D.cost.d)] w6 (by omega)).trans Y1.out)
  have Z2 := Lib.hid (show (((((w6).setCell ⟨w.heap.size + 1 + 1, 4, none⟩ (.int .i64 D.cost.a)).setCell ⟨w.heap.size + 1 + 1, 5, none⟩ (.int .i64 D.cost.b)).setCell ⟨w.heap.size + 1 + 1, 6, none⟩ (.int .i64 D.cost.c)).setCell ⟨w.heap.size + 1 + 1, 7, none⟩ (.int .i64 D.cost.d)).heap[w.heap.size + 1]? = _ from (puts_ne (g := w.heap.size + 1 + 1) [(4, .int .i64 D.cost.a), (5, .int .i64 D.cost.b), (6, .int .i64 D.cost.c), (7, .int .i64 D.cost.d)] w6 (by omega)).trans Y2.out)
  have Z3 := Lib.hid (show (((((w6).setCell ⟨w.heap.size + 1 + 1, 4, none⟩ (.int .i64 D.cost.a)).setCell ⟨w.heap.size + 1 + 1, 5, none⟩ (.int .i64 D.cost.b)).setCell ⟨w.heap.size + 1 + 1, 6, none⟩ (.int .i64 D.cost.c)).setCell ⟨w.heap.size + 1 + 1, 7, none⟩ (.int .i64 D.cost.d)).heap[w.heap.size + 1 + 1]? = some (.cells #[.slice P' g cg', .slice A' n c', .slice Z' m cm', .slice Y' p cp', .int .i64 D.cost.a, .int .i64 D.cost.b, .int .i64 D.cost.c, .int .i64 D.cost.d, .int .i64 0, .int .i64 0, .int .i64 0, .int .i64 0, .int .i64 0, .slice none 0 0] 44 (0, 0)) from (box_set (box_set (box_set (box_set Y3.out 4 (.int .i64 D.cost.a)) 5 (.int .i64 D.cost.b)) 6 (.int .i64 D.cost.c)) 7 (.int .i64 D.cost.d)))
  have ZB := Lib.hid (show Below w.heap.size w (((((w6).setCell ⟨w.heap.size + 1 + 1, 4, none⟩ (.int .i64 D.cost.a)).setCell ⟨w.heap.size + 1 + 1, 5, none⟩ (.int .i64 D.cost.b)).setCell ⟨w.heap.size + 1 + 1, 6, none⟩ (.int .i64 D.cost.c)).setCell ⟨w.heap.size + 1 + 1, 7, none⟩ (.int .i64 D.cost.d)) from puts_below [(4, .int .i64 D.cost.a), (5, .int .i64 D.cost.b), (6, .int .i64 D.cost.c), (7, .int .i64 D.cost.d)] w6 HB.out (by omega))
  have ZC := Lib.hid (show Chg (w.heap.size + 1) (w.heap.size + 1 + 1 + 1) w6 (((((w6).setCell ⟨w.heap.size + 1 + 1, 4, none⟩ (.int .i64 D.cost.a)).setCell ⟨w.heap.size + 1 + 1, 5, none⟩ (.int .i64 D.cost.b)).setCell ⟨w.heap.size + 1 + 1, 6, none⟩ (.int .i64 D.cost.c)).setCell ⟨w.heap.size + 1 + 1, 7, none⟩ (.int .i64 D.cost.d)) from puts_chg [(4, .int .i64 D.cost.a), (5, .int .i64 D.cost.b), (6, .int .i64 D.cost.c), (7, .int .i64 D.cost.d)] w6 (Chg.refl _ _ _) (by omega) (by omega))
  have ZS := Lib.hid (show (((((w6).setCell ⟨w.heap.size + 1 + 1, 4, none⟩ (.int .i64 D.cost.a)).setCell ⟨w.heap.size + 1 + 1, 5, none⟩ (.int .i64 D.cost.b)).setCell ⟨w.heap.size + 1 + 1, 6, none⟩ (.int .i64 D.cost.c)).setCell ⟨w.heap.size + 1 + 1, 7, none⟩ (.int .i64 D.cost.d)).heap.size = w6.heap.size from puts_size [(4, .int .i64 D.cost.a), (5, .int .i64 D.cost.b), (6, .int .i64 D.cost.c), (7, .int .i64 D.cost.d)] w6)
  have zo0 := Lib.hid (o0.out.chg ZC.out (.inr (by have a0 := HLO.out; have a1 := HL1.out; have a2 := HZ1.out; have a3 := HZ2.out; have a4 := HZ3.out; have a5 := HZ4.out; omega)))
  have zo1 := Lib.hid (o1.out.chg ZC.out (.inr (by have a0 := HLO.out; have a1 := HL1.out; have a2 := HZ1.out; have a3 := HZ2.out; have a4 := HZ3.out; have a5 := HZ4.out; omega)))
  have zo2 := Lib.hid (o2.out.chg ZC.out (.inr (by have a0 := HLO.out; have a1 := HL1.out; have a2 := HZ1.out; have a3 := HZ2.out; have a4 := HZ3.out; have a5 := HZ4.out; omega)))
  have zo3 := Lib.hid (o3.out.chg ZC.out (.inr (by have a0 := HLO.out; have a1 := HL1.out; have a2 := HZ1.out; have a3 := HZ2.out; have a4 := HZ3.out; have a5 := HZ4.out; omega)))
  clear Y1 Y2 Y3 HB ZC o0 o1 o2 o3
  generalize ((((w6).setCell ⟨w.heap.size + 1 + 1, 4, none⟩ (.int .i64 D.cost.a)).setCell ⟨w.heap.size + 1 + 1, 5, none⟩ (.int .i64 D.cost.b)).setCell ⟨w.heap.size + 1 + 1, 6, none⟩ (.int .i64 D.cost.c)).setCell ⟨w.heap.size + 1 + 1, 7, none⟩ (.int .i64 D.cost.d) = u5 at *
  have Y1 := Z1
  have Y2 := Z2
  have Y3 := Z3
  have HB := ZB
  clear Z1 Z2 Z3 ZB
  have o0 := zo0
  clear zo0
  have o1 := zo1
  clear zo1
  have o2 := zo2
  clear zo2
  have o3 := zo3
  clear zo3
  refine (toLoss_any D.bud _).mono ?_
  rintro e w7 ⟨rfl, bb⟩
  have HZ5 := Lib.hid (show w6.heap.size ≤ w7.heap.size by have := bb.size; rw [ZS.out] at this; exact this)
  clear ZS
  replace o0 := Lib.hid (o0.out.below bb)
  replace o1 := Lib.hid (o1.out.below bb)
  replace o2 := Lib.hid (o2.out.below bb)
  replace o3 := Lib.hid (o3.out.below bb)
  replace Y1 := Lib.hid (box_below Y1.out bb)
  replace Y2 := Lib.hid (box_below Y2.out bb)
  replace Y3 := Lib.hid (box_below Y3.out bb)
  replace HB := Lib.hid (HB.out.trans (bb.mono HB.out.size))
  clear bb
  have l1 := lt_of_block Y1.out
  have l3 := lt_of_block Y3.out
  have c112 := box_cell Y1.out 12 _ rfl
  have c113 := box_cell Y1.out 13 _ rfl
  have c38 := box_cell Y3.out 8 _ rfl
  have f38 := box_free Y3.out 8
  have c39 := box_cell Y3.out 9 _ rfl
  have f39 := box_free Y3.out 9
  have c310 := box_cell Y3.out 10 _ rfl
  have f310 := box_free Y3.out 10
  have c311 := box_cell Y3.out 11 _ rfl
  have f311 := box_free Y3.out 11
  have c312 := box_cell Y3.out 12 _ rfl
  have f312 := box_free Y3.out 12
  go_wp2_with fail
  clear l1 l3 c112 c113 c38 f38 c39 f39 c310 f310 c311 f311 c312 f312
  have Z1 := Lib.hid (show ((((((w7).setCell ⟨w.heap.size + 1 + 1, 8, none⟩ (.int .i64 D.bud.a)).setCell ⟨w.heap.size + 1 + 1, 9, none⟩ (.int .i64 D.bud.b)).setCell ⟨w.heap.size + 1 + 1, 10, none⟩ (.int .i64 D.bud.c)).setCell ⟨w.heap.size + 1 + 1, 11, none⟩ (.int .i64 D.bud.d)).setCell ⟨w.heap.size + 1 + 1, 12, none⟩ (.int .i64 D.floor)).heap[w.heap.size]? = _ from (puts_ne (g := w.heap.size + 1 + 1) [(8, .int .i64 D.bud.a), (9, .int .i64 D.bud.b), (10, .int .i64 D.bud.c), (11, .int .i64 D.bud.d), (12, .int .i64 D.floor)] w7 (by omega)).trans Y1.out)
  have Z2 := Lib.hid (show ((((((w7).setCell ⟨w.heap.size + 1 + 1, 8, none⟩ (.int .i64 D.bud.a)).setCell ⟨w.heap.size + 1 + 1, 9, none⟩ (.int .i64 D.bud.b)).setCell ⟨w.heap.size + 1 + 1, 10, none⟩ (.int .i64 D.bud.c)).setCell ⟨w.heap.size + 1 + 1, 11, none⟩ (.int .i64 D.bud.d)).setCell ⟨w.heap.size + 1 + 1, 12, none⟩ (.int .i64 D.floor)).heap[w.heap.size + 1]? = _ from (puts_ne (g := w.heap.size + 1 + 1) [(8, .int .i64 D.bud.a), (9, .int .i64 D.bud.b), (10, .int .i64 D.bud.c), (11, .int .i64 D.bud.d), (12, .int .i64 D.floor)] w7 (by omega)).trans Y2.out)
  have Z3 := Lib.hid (show ((((((w7).setCell ⟨w.heap.size + 1 + 1, 8, none⟩ (.int .i64 D.bud.a)).setCell ⟨w.heap.size + 1 + 1, 9, none⟩ (.int .i64 D.bud.b)).setCell ⟨w.heap.size + 1 + 1, 10, none⟩ (.int .i64 D.bud.c)).setCell ⟨w.heap.size + 1 + 1, 11, none⟩ (.int .i64 D.bud.d)).setCell ⟨w.heap.size + 1 + 1, 12, none⟩ (.int .i64 D.floor)).heap[w.heap.size + 1 + 1]? = some (.cells #[.slice P' g cg', .slice A' n c', .slice Z' m cm', .slice Y' p cp', .int .i64 D.cost.a, .int .i64 D.cost.b, .int .i64 D.cost.c, .int .i64 D.cost.d, .int .i64 D.bud.a, .int .i64 D.bud.b, .int .i64 D.bud.c, .int .i64 D.bud.d, .int .i64 D.floor, .slice none 0 0] 44 (0, 0)) from (box_set (box_set (box_set (box_set (box_set Y3.out 8 (.int .i64 D.bud.a)) 9 (.int .i64 D.bud.b)) 10 (.int .i64 D.bud.c)) 11 (.int .i64 D.bud.d)) 12 (.int .i64 D.floor)))
  have ZB := Lib.hid (show Below w.heap.size w ((((((w7).setCell ⟨w.heap.size + 1 + 1, 8, none⟩ (.int .i64 D.bud.a)).setCell ⟨w.heap.size + 1 + 1, 9, none⟩ (.int .i64 D.bud.b)).setCell ⟨w.heap.size + 1 + 1, 10, none⟩ (.int .i64 D.bud.c)).setCell ⟨w.heap.size + 1 + 1, 11, none⟩ (.int .i64 D.bud.d)).setCell ⟨w.heap.size + 1 + 1, 12, none⟩ (.int .i64 D.floor)) from puts_below [(8, .int .i64 D.bud.a), (9, .int .i64 D.bud.b), (10, .int .i64 D.bud.c), (11, .int .i64 D.bud.d), (12, .int .i64 D.floor)] w7 HB.out (by omega))
  have ZC := Lib.hid (show Chg (w.heap.size + 1) (w.heap.size + 1 + 1 + 1) w7 ((((((w7).setCell ⟨w.heap.size + 1 + 1, 8, none⟩ (.int .i64 D.bud.a)).setCell ⟨w.heap.size + 1 + 1, 9, none⟩ (.int .i64 D.bud.b)).setCell ⟨w.heap.size + 1 + 1, 10, none⟩ (.int .i64 D.bud.c)).setCell ⟨w.heap.size + 1 + 1, 11, none⟩ (.int .i64 D.bud.d)).setCell ⟨w.heap.size + 1 + 1, 12, none⟩ (.int .i64 D.floor)) from puts_chg [(8, .int .i64 D.bud.a), (9, .int .i64 D.bud.b), (10, .int .i64 D.bud.c), (11, .int .i64 D.bud.d), (12, .int .i64 D.floor)] w7 (Chg.refl _ _ _) (by omega) (by omega))
  have ZS := Lib.hid (show ((((((w7).setCell ⟨w.heap.size + 1 + 1, 8, none⟩ (.int .i64 D.bud.a)).setCell ⟨w.heap.size + 1 + 1, 9, none⟩ (.int .i64 D.bud.b)).setCell ⟨w.heap.size + 1 + 1, 10, none⟩ (.int .i64 D.bud.c)).setCell ⟨w.heap.size + 1 + 1, 11, none⟩ (.int .i64 D.bud.d)).setCell ⟨w.heap.size + 1 + 1, 12, none⟩ (.int .i64 D.floor)).heap.size = w7.heap.size from puts_size [(8, .int .i64 D.bud.a), (9, .int .i64 D.bud.b), (10, .int .i64 D.bud.c), (11, .int .i64 D.bud.d), (12, .int .i64 D.floor)] w7)
  have zo0 := Lib.hid (o0.out.chg ZC.out (.inr (by have a0 := HLO.out; have a1 := HL1.out; have a2 := HZ1.out; have a3 := HZ2.out; have a4 := HZ3.out; have a5 := HZ4.out; have a6 := HZ5.out; omega)))
  have zo1 := Lib.hid (o1.out.chg ZC.out (.inr (by have a0 := HLO.out; have a1 := HL1.out; have a2 := HZ1.out; have a3 := HZ2.out; have a4 := HZ3.out; have a5 := HZ4.out; have a6 := HZ5.out; omega)))
  have zo2 := Lib.hid (o2.out.chg ZC.out (.inr (by have a0 := HLO.out; have a1 := HL1.out; have a2 := HZ1.out; have a3 := HZ2.out; have a4 := HZ3.out; have a5 := HZ4.out; have a6 := HZ5.out; omega)))
  have zo3 := Lib.hid (o3.out.chg ZC.out (.inr (by have a0 := HLO.out; have a1 := HL1.out; have a2 := HZ1.out; have a3 := HZ2.out; have a4 := HZ3.out; have a5 := HZ4.out; have a6 := HZ5.out; omega)))
  clear Y1 Y2 Y3 HB ZC o0 o1 o2 o3
  generalize (((((w7).setCell ⟨w.heap.size + 1 + 1, 8, none⟩ (.int .i64 D.bud.a)).setCell ⟨w.heap.size + 1 + 1, 9, none⟩ (.int .i64 D.bud.b)).setCell ⟨w.heap.size + 1 + 1, 10, none⟩ (.int .i64 D.bud.c)).setCell ⟨w.heap.size + 1 + 1, 11, none⟩ (.int .i64 D.bud.d)).setCell ⟨w.heap.size + 1 + 1, 12, none⟩ (.int .i64 D.floor) = u6 at *
  have Y1 := Z1
  have Y2 := Z2
  have Y3 := Z3
  have HB := ZB
  clear Z1 Z2 Z3 ZB
  have o0 := zo0
  clear zo0
  have o1 := zo1
  clear zo1
  have o2 := zo2
  clear zo2
  have o3 := zo3
  clear zo3
  refine (toTableS_law Q q cq D.asked _ (HX.out.below HB.out).asked (by omega) (fun j hj => ⟨Nat.le_trans ((HBD.out.asked j hj).1) (by omega), Nat.le_trans ((HBD.out.asked j hj).2) (by omega)⟩)).mono ?_
  rintro e w8 ⟨Q', cq', rfl, hcq, o4, bb⟩
  rw [ZS.out] at o4
  have HZ6 := Lib.hid (show w7.heap.size ≤ w8.heap.size by have := bb.size; rw [ZS.out] at this; exact this)
  clear ZS
  replace o0 := Lib.hid (o0.out.below bb)
  replace o1 := Lib.hid (o1.out.below bb)
  replace o2 := Lib.hid (o2.out.below bb)
  replace o3 := Lib.hid (o3.out.below bb)
  replace o4 := Lib.hid o4
  replace Y1 := Lib.hid (box_below Y1.out bb)
  replace Y2 := Lib.hid (box_below Y2.out bb)
  replace Y3 := Lib.hid (box_below Y3.out bb)
  replace HB := Lib.hid (HB.out.trans (bb.mono HB.out.size))
  clear bb
  have l2 := lt_of_block Y2.out
  have l3 := lt_of_block Y3.out
  have c20 := box_cell Y2.out 0 _ rfl
  have f20 := box_free Y2.out 0
  have c30 := box_cell Y3.out 0 _ rfl
  have c21 := box_cell Y2.out 1 _ rfl
  have f21 := box_free Y2.out 1
  have c31 := box_cell Y3.out 1 _ rfl
  have c22 := box_cell Y2.out 2 _ rfl
  have f22 := box_free Y2.out 2
  have c32 := box_cell Y3.out 2 _ rfl
  have c23 := box_cell Y2.out 3 _ rfl
  have f23 := box_free Y2.out 3
  have c33 := box_cell Y3.out 3 _ rfl
  have c24 := box_cell Y2.out 4 _ rfl
  have f24 := box_free Y2.out 4
  have c34 := box_cell Y3.out 4 _ rfl
  have c25 := box_cell Y2.out 5 _ rfl
  have f25 := box_free Y2.out 5
  have c35 := box_cell Y3.out 5 _ rfl
  have c26 := box_cell Y2.out 6 _ rfl
  have f26 := box_free Y2.out 6
  have c36 := box_cell Y3.out 6 _ rfl
  have c27 := box_cell Y2.out 7 _ rfl
  have f27 := box_free Y2.out 7
  have c37 := box_cell Y3.out 7 _ rfl
  have c28 := box_cell Y2.out 8 _ rfl
  have f28 := box_free Y2.out 8
  have c38 := box_cell Y3.out 8 _ rfl
  have c29 := box_cell Y2.out 9 _ rfl
  have f29 := box_free Y2.out 9
  have c39 := box_cell Y3.out 9 _ rfl
  have c210 := box_cell Y2.out 10 _ rfl
  have f210 := box_free Y2.out 10
  have c310 := box_cell Y3.out 10 _ rfl
  have c211 := box_cell Y2.out 11 _ rfl
  have f211 := box_free Y2.out 11
  have c311 := box_cell Y3.out 11 _ rfl
  have c212 := box_cell Y2.out 12 _ rfl
  have f212 := box_free Y2.out 12
  have c312 := box_cell Y3.out 12 _ rfl
  have c213 := box_cell Y2.out 13 _ rfl
  have f213 := box_free Y2.out 13
  have c313 := box_cell Y3.out 13 _ rfl
  have f313 := box_free Y3.out 13
  clear Y1 Y2 Y3
  go_wp2
  have KC := puts_chg (g := w.heap.size + 1) [(0, .slice P' g cg'), (1, .slice A' n c'), (2, .slice Z' m cm'), (3, .slice Y' p cp'), (4, .int .i64 D.cost.a), (5, .int .i64 D.cost.b), (6, .int .i64 D.cost.c), (7, .int .i64 D.cost.d), (8, .int .i64 D.bud.a), (9, .int .i64 D.bud.b), (10, .int .i64 D.bud.c), (11, .int .i64 D.bud.d), (12, .int .i64 D.floor), (13, .slice Q' q cq')] _ (puts_chg (g := w.heap.size + 1 + 1) [(13, .slice Q' q cq')] w8 (Chg.refl (w.heap.size + 1) (w.heap.size + 1 + 1 + 1) w8) (by omega) (by omega)) (by omega) (by omega)
  refine bodyPost_ret (v := .agg #[.slice P' g cg', .slice A' n c', .slice Z' m cm', .slice Y' p cp', .int .i64 D.cost.a, .int .i64 D.cost.b, .int .i64 D.cost.c, .int .i64 D.cost.d, .int .i64 D.bud.a, .int .i64 D.bud.b, .int .i64 D.bud.c, .int .i64 D.bud.d, .int .i64 D.floor, .slice Q' q cq']) (by simp [results, Tryz.results12, go_sem, c20, c21, c22, c23, c24, c25, c26, c27, c28, c29, c210, c211, c212, c213]) rfl ⟨P', A', Z', Y', Q', cg', c', cm', cp', cq', rfl, ?_, puts_below (g := w.heap.size + 1) [(0, .slice P' g cg'), (1, .slice A' n c'), (2, .slice Z' m cm'), (3, .slice Y' p cp'), (4, .int .i64 D.cost.a), (5, .int .i64 D.cost.b), (6, .int .i64 D.cost.c), (7, .int .i64 D.cost.d), (8, .int .i64 D.bud.a), (9, .int .i64 D.bud.b), (10, .int .i64 D.bud.c), (11, .int .i64 D.bud.d), (12, .int .i64 D.floor), (13, .slice Q' q cq')] _ (puts_below (g := w.heap.size + 1 + 1) [(13, .slice Q' q cq')] w8 HB.out (by omega)) (by omega)⟩
  have s0 := HB.out.size
  have a0 := HLO.out
  have a1 := HL1.out
  have a2 := HZ1.out
  have a3 := HZ2.out
  have a4 := HZ3.out
  have a5 := HZ4.out
  have a6 := HZ5.out
  have a7 := HZ6.out
  have k0 := o0.out.chg KC (.inr (by omega))
  have k1 := o1.out.chg KC (.inr (by omega))
  have k2 := o2.out.chg KC (.inr (by omega))
  have k3 := o3.out.chg KC (.inr (by omega))
  have k4 := o4.out.chg KC (.inr (by omega))
  have hsz := (puts_size (g := w.heap.size + 1) [(0, .slice P' g cg'), (1, .slice A' n c'), (2, .slice Z' m cm'), (3, .slice Y' p cp'), (4, .int .i64 D.cost.a), (5, .int .i64 D.cost.b), (6, .int .i64 D.cost.c), (7, .int .i64 D.cost.d), (8, .int .i64 D.bud.a), (9, .int .i64 D.bud.b), (10, .int .i64 D.bud.c), (11, .int .i64 D.bud.d), (12, .int .i64 D.floor), (13, .slice Q' q cq')] (puts w8 (w.heap.size + 1 + 1) [(13, .slice Q' q cq')])).trans (puts_size (g := w.heap.size + 1 + 1) [(13, .slice Q' q cq')] w8)
  rw [← hsz] at k4
  exact ⟨hcp, hcq, w2.heap.size, w3.heap.size, w4.heap.size, w5.heap.size, w7.heap.size, by omega, by omega, by omega, by omega, by omega, Nat.le_trans (show w7.heap.size ≤ w8.heap.size by omega) (Nat.le_of_eq hsz.symm), ⟨k0.own.mono (by omega), k0.top, k0.small⟩, k1, k2, k3, k4⟩
end
end Go.Proofs.YtfanpbfmnckmnaaGreat
