/- Losses: tests, composition, costs, comparing, of the program and of the reference; printed by glo.py. -/
import Derived.Test.YtfanpbfmnckmnaaGreatSrvP
import Derived.BigQuiet
namespace Go.Proofs.YtfanpbfmnckmnaaGreat
open Go.RowKit


set_option maxHeartbeats 800000 in
theorem mulFrac_any (n d p q : Int) (w : World) (h1 : fracB n d = true) (h2 : fracB p q = true) :
    Calls Tryz.prog 171 #[.agg #[.int .i64 n, .int .i64 d], .agg #[.int .i64 p, .int .i64 q]] w fun e w' => e = .returned (.tuple #[.agg #[.int .i64 (fN (mulO n d p q)), .int .i64 (fD (mulO n d p q))], .bool (fB (mulO n d p q))]) ∧ Below w.heap.size w w' := by
  obtain ⟨hn, hd, hd1⟩ := fracB_sm h1
  obtain ⟨hp, hq, hq1⟩ := fracB_sm h2
  have m0 := sm_mul hn hp
  have m1 := sm_mul hd hq
  obtain ⟨m0a, m0b⟩ := m0
  obtain ⟨m1a, m1b⟩ := m1
  have H1 := Lib.hid h1
  have H2 := Lib.hid h2
  clear h1 h2
  obtain ⟨b0, x0, x1, x4⟩ := box_3f w #[.int .i64 n, .int .i64 d] #[.int .i64 p, .int .i64 q] #[.int .i64 0, .int .i64 0] 40 40 40
  have E : Hid (mulO n d p q = redO (n * p) (d * q)) := Lib.hid rfl
  have hne : d * q ≠ 0 := Int.mul_ne_zero (by omega) (by omega)
  go_enter Tryz.func171, Tryz.ntmps171
  go_wp2_with fail
  generalize ((w.alloc (.cells #[.int .i64 n, .int .i64 d] 40)).alloc (.cells #[.int .i64 p, .int .i64 q] 40)).alloc (.cells #[.int .i64 0, .int .i64 0] 40) = w0 at *
  refine (isFrac_any _ _ _).mono ?_
  rintro e w1 ⟨rfl, b1⟩
  rw [H1.out]
  replace x0 := box_below x0 b1
  replace x1 := box_below x1 b1
  replace x4 := box_below x4 b1
  replace b1 := b0.trans (b1.mono b0.size)
  clear b0
  have a0 := box_cell x0 0 _ rfl
  have a1 := box_cell x0 1 _ rfl
  have b00 := box_cell x1 0 _ rfl
  have b01 := box_cell x1 1 _ rfl
  have d0 := box_cell x4 0 _ rfl
  have d1 := box_cell x4 1 _ rfl
  have f0 := box_free x4 0
  have f1 := box_free x4 1
  go_wp2_with fail
  refine (isFrac_any _ _ _).mono ?_
  rintro e w2 ⟨rfl, b2⟩
  rw [H2.out]
  replace x0 := box_below x0 b2
  replace x1 := box_below x1 b2
  replace x4 := box_below x4 b2
  replace b2 := b1.trans (b2.mono b1.size)
  clear b1
  have a0 := box_cell x0 0 _ rfl
  have a1 := box_cell x0 1 _ rfl
  have b00 := box_cell x1 0 _ rfl
  have b01 := box_cell x1 1 _ rfl
  have d0 := box_cell x4 0 _ rfl
  have d1 := box_cell x4 1 _ rfl
  have f0 := box_free x4 0
  have f1 := box_free x4 1
  go_wp2_with fail
  refine (reduced_any _ _ _ (by omega) (by omega) (by omega) (by omega) hne).mono ?_
  rintro e w3 ⟨rfl, b3⟩
  rw [← E.out]
  replace x4 := box_below x4 b3
  replace b3 := b2.trans (b3.mono b2.size)
  clear b2
  have d0 := box_cell x4 0 _ rfl
  have d1 := box_cell x4 1 _ rfl
  have f0 := box_free x4 0
  have f1 := box_free x4 1
  have y4 := store_two x4 (.int .i64 (fN (mulO n d p q))) (.int .i64 (fD (mulO n d p q)))
  have e0 := box_cell y4 0 _ rfl
  have e1 := box_cell y4 1 _ rfl
  clear m0a m0b m1a m1b
  go_wp2
  refine bodyPost_ret (v := .tuple #[.agg #[.int .i64 (fN (mulO n d p q)), .int .i64 (fD (mulO n d p q))], .bool (fB (mulO n d p q))]) (by simp [results, Tryz.results171, go_sem, e0, e1]) rfl ⟨rfl, below_two b3 (by omega)⟩

theorem store_four {w : World} {g : Nat} {T : TypeId} {p q r s : Value} (h : w.heap[g]? = some (.cells #[p, q, r, s] T (0, 0))) (a b c d : Value) :
    ((((w.setCell ⟨g, 0, none⟩ a).setCell ⟨g, 1, none⟩ b).setCell ⟨g, 2, none⟩ c).setCell ⟨g, 3, none⟩ d).heap[g]? = some (.cells #[a, b, c, d] T (0, 0)) :=
  box_set (box_set (box_set (box_set h 0 a) 1 b) 2 c) 3 d
theorem below_four {w0 w : World} {B g : Nat} {a b c d : Value} (h : Below B w0 w) (hg : B ≤ g) : Below B w0 ((((w.setCell ⟨g, 0, none⟩ a).setCell ⟨g, 1, none⟩ b).setCell ⟨g, 2, none⟩ c).setCell ⟨g, 3, none⟩ d) := (((h.setCell (by exact hg) _).setCell (by exact hg) _).setCell (by exact hg) _).setCell (by exact hg) _
/-- What a function of losses returns. -/
def losE : Option LosD → Ending
  | none => .returned (.tuple #[.agg #[.int .i64 0, .int .i64 0, .int .i64 0, .int .i64 0], .bool false])
  | some z => .returned (.tuple #[.agg #[.int .i64 z.a, .int .i64 z.b, .int .i64 z.c, .int .i64 z.d], .bool true])
theorem losB_1 {x : LosD} (h : fracB x.a x.b = false) : false = losB x := by unfold losB; rw [h]; rfl
theorem losB_2 {x : LosD} (h : fracB x.c x.d = false) : false = losB x := by unfold losB; rw [h]; simp
theorem losB_3 {x : LosD} (h : ¬ x.b ≤ x.a) : false = losB x := by unfold losB; rw [decide_eq_false h]; simp
theorem losB_4 {x : LosD} (h1 : fracB x.a x.b = true) (h2 : fracB x.c x.d = true) (h : x.b ≤ x.a) : decide (0 ≤ x.c) = losB x := by unfold losB; rw [h1, h2, decide_eq_true h]; rfl

set_option maxRecDepth 100000 in
set_option maxHeartbeats 2000000 in
theorem IsLoss_any (x : LosD) (w : World) : Calls Tryz.prog 62 #[.agg #[.int .i64 x.a, .int .i64 x.b, .int .i64 x.c, .int .i64 x.d]] w fun e w' => e = .returned (.bool (losB x)) ∧ Below w.heap.size w w' := by
  have b0 := below_new w (.cells #[.int .i64 x.a, .int .i64 x.b, .int .i64 x.c, .int .i64 x.d] 42)
  have Xa := Lib.hid (box_new w #[.int .i64 x.a, .int .i64 x.b, .int .i64 x.c, .int .i64 x.d] 42)
  have HB := Lib.hid b0
  clear b0
  cases h0 : fracB x.a x.b
  · have R := Lib.hid (losB_1 h0)
    have H0 := Lib.hid h0
    clear h0
    go_enter Tryz.func62, Tryz.ntmps62
    have l0 := lt_of_block Xa.out
    have c0 := box_cell Xa.out 0 _ rfl
    have c1 := box_cell Xa.out 1 _ rfl
    go_wp2_with fail
    clear l0 c0 c1
    generalize w.alloc (.cells #[.int .i64 x.a, .int .i64 x.b, .int .i64 x.c, .int .i64 x.d] 42) = w0 at *
    refine (isFrac_any x.a x.b _).mono ?_
    rintro e w1 ⟨rfl, b1⟩
    rw [H0.out]
    replace Xa := Lib.hid (box_below Xa.out b1)
    replace HB := Lib.hid (HB.out.trans (b1.mono HB.out.size))
    clear b1
    go_wp2
    go_ret
    exact ⟨ret_bool R.out, HB.out⟩
  have H0 := Lib.hid h0
  clear h0
  cases h1 : fracB x.c x.d
  · have R := Lib.hid (losB_2 h1)
    have H1 := Lib.hid h1
    clear h1
    go_enter Tryz.func62, Tryz.ntmps62
    have l0 := lt_of_block Xa.out
    have c0 := box_cell Xa.out 0 _ rfl
    have c1 := box_cell Xa.out 1 _ rfl
    go_wp2_with fail
    clear l0 c0 c1
    generalize w.alloc (.cells #[.int .i64 x.a, .int .i64 x.b, .int .i64 x.c, .int .i64 x.d] 42) = w0 at *
    refine (isFrac_any x.a x.b _).mono ?_
    rintro e w1 ⟨rfl, b1⟩
    rw [H0.out]
    replace Xa := Lib.hid (box_below Xa.out b1)
    replace HB := Lib.hid (HB.out.trans (b1.mono HB.out.size))
    clear b1
    have l0 := lt_of_block Xa.out
    have c2 := box_cell Xa.out 2 _ rfl
    have c3 := box_cell Xa.out 3 _ rfl
    go_wp2_with fail
    clear l0 c2 c3
    refine (isFrac_any x.c x.d _).mono ?_
    rintro e w2 ⟨rfl, b1⟩
    rw [H1.out]
    replace Xa := Lib.hid (box_below Xa.out b1)
    replace HB := Lib.hid (HB.out.trans (b1.mono HB.out.size))
    clear b1
    go_wp2
    go_ret
    exact ⟨ret_bool R.out, HB.out⟩
  have H1 := Lib.hid h1
  clear h1
  go_enter Tryz.func62, Tryz.ntmps62
  have l0 := lt_of_block Xa.out
  have c0 := box_cell Xa.out 0 _ rfl
  have c1 := box_cell Xa.out 1 _ rfl
  go_wp2_with fail
  clear l0 c0 c1
  generalize w.alloc (.cells #[.int .i64 x.a, .int .i64 x.b, .int .i64 x.c, .int .i64 x.d] 42) = w0 at *
  refine (isFrac_any x.a x.b _).mono ?_
  rintro e w1 ⟨rfl, b1⟩
  rw [H0.out]
  replace Xa := Lib.hid (box_below Xa.out b1)
  replace HB := Lib.hid (HB.out.trans (b1.mono HB.out.size))
  clear b1
  have l0 := lt_of_block Xa.out
  have c2 := box_cell Xa.out 2 _ rfl
  have c3 := box_cell Xa.out 3 _ rfl
  go_wp2_with fail
  clear l0 c2 c3
  refine (isFrac_any x.c x.d _).mono ?_
  rintro e w2 ⟨rfl, b1⟩
  rw [H1.out]
  replace Xa := Lib.hid (box_below Xa.out b1)
  replace HB := Lib.hid (HB.out.trans (b1.mono HB.out.size))
  clear b1
  have l0 := lt_of_block Xa.out
  have c0 := box_cell Xa.out 0 _ rfl
  have c1 := box_cell Xa.out 1 _ rfl
  have c2 := box_cell Xa.out 2 _ rfl
  by_cases h2 : x.b ≤ x.a
  · have R := Lib.hid (losB_4 H0.out H1.out h2)
    go_wp2
    go_ret
    exact ⟨ret_bool R.out, HB.out⟩
  · have R := Lib.hid (losB_3 h2)
    go_wp2
    go_ret
    exact ⟨ret_bool R.out, HB.out⟩

set_option maxRecDepth 100000 in
set_option maxHeartbeats 2000000 in
theorem pGood_any (x : LosD) (w : World) : Calls Tryz.prog 107 #[.agg #[.int .i64 x.a, .int .i64 x.b, .int .i64 x.c, .int .i64 x.d]] w fun e w' => e = .returned (.bool (losB x)) ∧ Below w.heap.size w w' := by
  have b0 := below_new w (.cells #[.int .i64 x.a, .int .i64 x.b, .int .i64 x.c, .int .i64 x.d] 42)
  have Xa := Lib.hid (box_new w #[.int .i64 x.a, .int .i64 x.b, .int .i64 x.c, .int .i64 x.d] 42)
  have HB := Lib.hid b0
  clear b0
  cases h0 : fracB x.a x.b
  · have R := Lib.hid (losB_1 h0)
    have H0 := Lib.hid h0
    clear h0
    go_enter Tryz.func107, Tryz.ntmps107
    have l0 := lt_of_block Xa.out
    have c0 := box_cell Xa.out 0 _ rfl
    have c1 := box_cell Xa.out 1 _ rfl
    go_wp2_with fail
    clear l0 c0 c1
    generalize w.alloc (.cells #[.int .i64 x.a, .int .i64 x.b, .int .i64 x.c, .int .i64 x.d] 42) = w0 at *
    refine (fGood_any x.a x.b _).mono ?_
    rintro e w1 ⟨rfl, b1⟩
    rw [H0.out]
    replace Xa := Lib.hid (box_below Xa.out b1)
    replace HB := Lib.hid (HB.out.trans (b1.mono HB.out.size))
    clear b1
    go_wp2
    go_ret
    exact ⟨ret_bool R.out, HB.out⟩
  have H0 := Lib.hid h0
  clear h0
  cases h1 : fracB x.c x.d
  · have R := Lib.hid (losB_2 h1)
    have H1 := Lib.hid h1
    clear h1
    go_enter Tryz.func107, Tryz.ntmps107
    have l0 := lt_of_block Xa.out
    have c0 := box_cell Xa.out 0 _ rfl
    have c1 := box_cell Xa.out 1 _ rfl
    go_wp2_with fail
    clear l0 c0 c1
    generalize w.alloc (.cells #[.int .i64 x.a, .int .i64 x.b, .int .i64 x.c, .int .i64 x.d] 42) = w0 at *
    refine (fGood_any x.a x.b _).mono ?_
    rintro e w1 ⟨rfl, b1⟩
    rw [H0.out]
    replace Xa := Lib.hid (box_below Xa.out b1)
    replace HB := Lib.hid (HB.out.trans (b1.mono HB.out.size))
    clear b1
    have l0 := lt_of_block Xa.out
    have c2 := box_cell Xa.out 2 _ rfl
    have c3 := box_cell Xa.out 3 _ rfl
    go_wp2_with fail
    clear l0 c2 c3
    refine (fGood_any x.c x.d _).mono ?_
    rintro e w2 ⟨rfl, b1⟩
    rw [H1.out]
    replace Xa := Lib.hid (box_below Xa.out b1)
    replace HB := Lib.hid (HB.out.trans (b1.mono HB.out.size))
    clear b1
    go_wp2
    go_ret
    exact ⟨ret_bool R.out, HB.out⟩
  have H1 := Lib.hid h1
  clear h1
  go_enter Tryz.func107, Tryz.ntmps107
  have l0 := lt_of_block Xa.out
  have c0 := box_cell Xa.out 0 _ rfl
  have c1 := box_cell Xa.out 1 _ rfl
  go_wp2_with fail
  clear l0 c0 c1
  generalize w.alloc (.cells #[.int .i64 x.a, .int .i64 x.b, .int .i64 x.c, .int .i64 x.d] 42) = w0 at *
  refine (fGood_any x.a x.b _).mono ?_
  rintro e w1 ⟨rfl, b1⟩
  rw [H0.out]
  replace Xa := Lib.hid (box_below Xa.out b1)
  replace HB := Lib.hid (HB.out.trans (b1.mono HB.out.size))
  clear b1
  have l0 := lt_of_block Xa.out
  have c2 := box_cell Xa.out 2 _ rfl
  have c3 := box_cell Xa.out 3 _ rfl
  go_wp2_with fail
  clear l0 c2 c3
  refine (fGood_any x.c x.d _).mono ?_
  rintro e w2 ⟨rfl, b1⟩
  rw [H1.out]
  replace Xa := Lib.hid (box_below Xa.out b1)
  replace HB := Lib.hid (HB.out.trans (b1.mono HB.out.size))
  clear b1
  have l0 := lt_of_block Xa.out
  have c0 := box_cell Xa.out 0 _ rfl
  have c1 := box_cell Xa.out 1 _ rfl
  have c2 := box_cell Xa.out 2 _ rfl
  by_cases h2 : x.b ≤ x.a
  · have R := Lib.hid (losB_4 H0.out H1.out h2)
    go_wp2
    go_ret
    exact ⟨ret_bool R.out, HB.out⟩
  · have R := Lib.hid (losB_3 h2)
    go_wp2
    go_ret
    exact ⟨ret_bool R.out, HB.out⟩

set_option maxRecDepth 100000 in
set_option maxHeartbeats 2000000 in
theorem NoLoss_any (w : World) : Calls Tryz.prog 126 #[] w fun e w' => e = .returned (.agg #[.int .i64 1, .int .i64 1, .int .i64 0, .int .i64 1]) ∧ Below w.heap.size w w' := by
  have b0 := below_new w (.cells #[.int .i64 1, .int .i64 1, .int .i64 0, .int .i64 1] 42)
  have y := box_new w #[.int .i64 1, .int .i64 1, .int .i64 0, .int .i64 1] 42
  have e0 := box_cell y 0 _ rfl
  have e1 := box_cell y 1 _ rfl
  have e2 := box_cell y 2 _ rfl
  have e3 := box_cell y 3 _ rfl
  go_enter Tryz.func126, Tryz.ntmps126
  go_wp2
  exact bodyPost_ret (v := .agg #[.int .i64 1, .int .i64 1, .int .i64 0, .int .i64 1]) (by simp [results, Tryz.results126, go_sem, e0, e1, e2, e3]) rfl ⟨rfl, b0⟩

set_option maxRecDepth 100000 in
set_option maxHeartbeats 2000000 in
theorem pNone_any (w : World) : Calls Tryz.prog 124 #[] w fun e w' => e = .returned (.agg #[.int .i64 1, .int .i64 1, .int .i64 0, .int .i64 1]) ∧ Below w.heap.size w w' := by
  have b0 := below_new w (.cells #[.int .i64 0, .int .i64 0, .int .i64 0, .int .i64 0] 42)
  have X := box_new w #[.int .i64 0, .int .i64 0, .int .i64 0, .int .i64 0] 42
  go_enter Tryz.func124, Tryz.ntmps124
  go_wp2_with fail
  generalize w.alloc (.cells #[.int .i64 0, .int .i64 0, .int .i64 0, .int .i64 0] 42) = w0 at *
  refine (fInt_any 1 _).mono ?_
  rintro e w1 ⟨rfl, b1⟩
  replace X := box_below X b1
  replace b0 := b0.trans (b1.mono b0.size)
  go_wp2_with fail
  refine (fInt_any 0 _).mono ?_
  rintro e w2 ⟨rfl, b2⟩
  replace X := box_below X b2
  replace b0 := b0.trans (b2.mono b0.size)
  have l0 := lt_of_block X
  have c0 := box_cell X 0 _ rfl
  have c1 := box_cell X 1 _ rfl
  have c2 := box_cell X 2 _ rfl
  have c3 := box_cell X 3 _ rfl
  have f0 := box_free X 0
  have f1 := box_free X 1
  have f2 := box_free X 2
  have f3 := box_free X 3
  have y := store_four X (.int .i64 1) (.int .i64 1) (.int .i64 0) (.int .i64 1)
  have e0 := box_cell y 0 _ rfl
  have e1 := box_cell y 1 _ rfl
  have e2 := box_cell y 2 _ rfl
  have e3 := box_cell y 3 _ rfl
  go_wp2
  exact bodyPost_ret (v := .agg #[.int .i64 1, .int .i64 1, .int .i64 0, .int .i64 1]) (by simp [results, Tryz.results124, go_sem, e0, e1, e2, e3]) rfl ⟨rfl, below_four b0 (Nat.le_refl _)⟩

set_option maxRecDepth 100000 in
set_option maxHeartbeats 2000000 in
theorem composed_any (x y : LosD) (R : Option LosD) (w : World) (hx : LosOk x) (hy : LosOk y) (hR : twoO x y = R) : Calls Tryz.prog 127 #[.agg #[.int .i64 x.a, .int .i64 x.b, .int .i64 x.c, .int .i64 x.d], .agg #[.int .i64 y.a, .int .i64 y.b, .int .i64 y.c, .int .i64 y.d]] w fun e w' => e = losE R ∧ Below w.heap.size w w' := by
  obtain ⟨b0, xa, xb, xr⟩ := box_3f w #[.int .i64 x.a, .int .i64 x.b, .int .i64 x.c, .int .i64 x.d] #[.int .i64 y.a, .int .i64 y.b, .int .i64 y.c, .int .i64 y.d] #[.int .i64 0, .int .i64 0, .int .i64 0, .int .i64 0] 42 42 42
  have Xa := Lib.hid xa
  have Xb := Lib.hid xb
  have Xr := Lib.hid xr
  have HB := Lib.hid b0
  have HX := Lib.hid hx
  have HY := Lib.hid hy
  clear xa xb xr b0 hx hy
  cases hm : mulO x.a x.b y.a y.b with
  | none =>
    have hr := hR.symm.trans (twoO_1 hm)
    subst hr
    have HM := Lib.hid hm
    clear hm hR
    go_enter Tryz.func127, Tryz.ntmps127
    have la := lt_of_block Xa.out
    have lb := lt_of_block Xb.out
    have a0 := box_cell Xa.out 0 _ rfl
    have a1 := box_cell Xa.out 1 _ rfl
    have b0 := box_cell Xb.out 0 _ rfl
    have b1 := box_cell Xb.out 1 _ rfl
    go_wp2_with fail
    clear la lb a0 a1 b0 b1
    generalize ((w.alloc (.cells #[.int .i64 x.a, .int .i64 x.b, .int .i64 x.c, .int .i64 x.d] 42)).alloc (.cells #[.int .i64 y.a, .int .i64 y.b, .int .i64 y.c, .int .i64 y.d] 42)).alloc (.cells #[.int .i64 0, .int .i64 0, .int .i64 0, .int .i64 0] 42) = w0 at *
    refine (mulFrac_any x.a x.b y.a y.b _ HX.out.f HY.out.f).mono ?_
    rintro e w1 ⟨he, b1⟩
    rw [HM.out] at he
    obtain rfl : e = .returned (.tuple #[.agg #[.int .i64 0, .int .i64 0], .bool false]) := he
    replace Xa := Lib.hid (box_below Xa.out b1)
    replace Xb := Lib.hid (box_below Xb.out b1)
    replace Xr := Lib.hid (box_below Xr.out b1)
    replace HB := Lib.hid (HB.out.trans (b1.mono HB.out.size))
    clear b1
    have b1 := below_new w1 (.cells #[.int .i64 0, .int .i64 0] 40)
    have XM := Lib.hid (box_new w1 #[.int .i64 0, .int .i64 0] 40)
    replace Xa := Lib.hid (box_below Xa.out b1)
    replace Xb := Lib.hid (box_below Xb.out b1)
    replace Xr := Lib.hid (box_below Xr.out b1)
    replace HB := Lib.hid (HB.out.trans (b1.mono HB.out.size))
    clear b1
    have lr := lt_of_block Xr.out
    have r0 := box_cell Xr.out 0 _ rfl
    have r1 := box_cell Xr.out 1 _ rfl
    have r2 := box_cell Xr.out 2 _ rfl
    have r3 := box_cell Xr.out 3 _ rfl
    have f0 := box_free Xr.out 0
    have f1 := box_free Xr.out 1
    have f2 := box_free Xr.out 2
    have f3 := box_free Xr.out 3
    have y4 := store_four Xr.out (.int .i64 0) (.int .i64 0) (.int .i64 0) (.int .i64 0)
    have e0 := box_cell y4 0 _ rfl
    have e1 := box_cell y4 1 _ rfl
    have e2 := box_cell y4 2 _ rfl
    have e3 := box_cell y4 3 _ rfl
    have HE := HB.out
    clear y4 HB HX HY Xa Xb Xr
    go_wp2
    exact bodyPost_ret (v := .tuple #[.agg #[.int .i64 0, .int .i64 0, .int .i64 0, .int .i64 0], .bool false]) (by simp [results, Tryz.results127, go_sem, e0, e1, e2, e3]) rfl ⟨rfl, below_four HE (by omega)⟩
  | some r =>
    obtain ⟨mp, mq⟩ := r
    have HM := Lib.hid hm
    cases ha : addO x.c x.d y.c y.d with
    | none =>
      have hr := hR.symm.trans (twoO_2 ha)
      subst hr
      have HA := Lib.hid ha
      clear ha hm hR
      go_enter Tryz.func127, Tryz.ntmps127
      have la := lt_of_block Xa.out
      have lb := lt_of_block Xb.out
      have a0 := box_cell Xa.out 0 _ rfl
      have a1 := box_cell Xa.out 1 _ rfl
      have b0 := box_cell Xb.out 0 _ rfl
      have b1 := box_cell Xb.out 1 _ rfl
      go_wp2_with fail
      clear la lb a0 a1 b0 b1
      generalize ((w.alloc (.cells #[.int .i64 x.a, .int .i64 x.b, .int .i64 x.c, .int .i64 x.d] 42)).alloc (.cells #[.int .i64 y.a, .int .i64 y.b, .int .i64 y.c, .int .i64 y.d] 42)).alloc (.cells #[.int .i64 0, .int .i64 0, .int .i64 0, .int .i64 0] 42) = w0 at *
      refine (mulFrac_any x.a x.b y.a y.b _ HX.out.f HY.out.f).mono ?_
      rintro e w1 ⟨he, b1⟩
      rw [HM.out] at he
      obtain rfl : e = .returned (.tuple #[.agg #[.int .i64 mp, .int .i64 mq], .bool true]) := he
      replace Xa := Lib.hid (box_below Xa.out b1)
      replace Xb := Lib.hid (box_below Xb.out b1)
      replace Xr := Lib.hid (box_below Xr.out b1)
      replace HB := Lib.hid (HB.out.trans (b1.mono HB.out.size))
      clear b1
      have b1 := below_new w1 (.cells #[.int .i64 mp, .int .i64 mq] 40)
      have XM := Lib.hid (box_new w1 #[.int .i64 mp, .int .i64 mq] 40)
      replace Xa := Lib.hid (box_below Xa.out b1)
      replace Xb := Lib.hid (box_below Xb.out b1)
      replace Xr := Lib.hid (box_below Xr.out b1)
      replace HB := Lib.hid (HB.out.trans (b1.mono HB.out.size))
      clear b1
      have la := lt_of_block Xa.out
      have lb := lt_of_block Xb.out
      have a2 := box_cell Xa.out 2 _ rfl
      have a3 := box_cell Xa.out 3 _ rfl
      have b2 := box_cell Xb.out 2 _ rfl
      have b3 := box_cell Xb.out 3 _ rfl
      go_wp2_with fail
      clear la lb a2 a3 b2 b3
      generalize w1.alloc (.cells #[.int .i64 mp, .int .i64 mq] 40) = w2 at *
      refine (addFrac_any x.c x.d y.c y.d _ HX.out.g HY.out.g).mono ?_
      rintro e w3 ⟨he, b1⟩
      rw [HA.out] at he
      obtain rfl : e = .returned (.tuple #[.agg #[.int .i64 0, .int .i64 0], .bool false]) := he
      replace Xa := Lib.hid (box_below Xa.out b1)
      replace Xb := Lib.hid (box_below Xb.out b1)
      replace Xr := Lib.hid (box_below Xr.out b1)
      replace HB := Lib.hid (HB.out.trans (b1.mono HB.out.size))
      replace XM := Lib.hid (box_below XM.out b1)
      clear b1
      have b1 := below_new w3 (.cells #[.int .i64 0, .int .i64 0] 40)
      have XN := Lib.hid (box_new w3 #[.int .i64 0, .int .i64 0] 40)
      replace Xa := Lib.hid (box_below Xa.out b1)
      replace Xb := Lib.hid (box_below Xb.out b1)
      replace Xr := Lib.hid (box_below Xr.out b1)
      replace HB := Lib.hid (HB.out.trans (b1.mono HB.out.size))
      replace XM := Lib.hid (box_below XM.out b1)
      clear b1
      have lr := lt_of_block Xr.out
      have r0 := box_cell Xr.out 0 _ rfl
      have r1 := box_cell Xr.out 1 _ rfl
      have r2 := box_cell Xr.out 2 _ rfl
      have r3 := box_cell Xr.out 3 _ rfl
      have f0 := box_free Xr.out 0
      have f1 := box_free Xr.out 1
      have f2 := box_free Xr.out 2
      have f3 := box_free Xr.out 3
      have y4 := store_four Xr.out (.int .i64 0) (.int .i64 0) (.int .i64 0) (.int .i64 0)
      have e0 := box_cell y4 0 _ rfl
      have e1 := box_cell y4 1 _ rfl
      have e2 := box_cell y4 2 _ rfl
      have e3 := box_cell y4 3 _ rfl
      have HE := HB.out
      clear y4 HB HX HY Xa Xb Xr
      go_wp2
      exact bodyPost_ret (v := .tuple #[.agg #[.int .i64 0, .int .i64 0, .int .i64 0, .int .i64 0], .bool false]) (by simp [results, Tryz.results127, go_sem, e0, e1, e2, e3]) rfl ⟨rfl, below_four HE (by omega)⟩
    | some s =>
      obtain ⟨ap, aq⟩ := s
      have hr := hR.symm.trans (twoO_3 hm ha)
      subst hr
      have HA := Lib.hid ha
      clear ha hm hR
      go_enter Tryz.func127, Tryz.ntmps127
      have la := lt_of_block Xa.out
      have lb := lt_of_block Xb.out
      have a0 := box_cell Xa.out 0 _ rfl
      have a1 := box_cell Xa.out 1 _ rfl
      have b0 := box_cell Xb.out 0 _ rfl
      have b1 := box_cell Xb.out 1 _ rfl
      go_wp2_with fail
      clear la lb a0 a1 b0 b1
      generalize ((w.alloc (.cells #[.int .i64 x.a, .int .i64 x.b, .int .i64 x.c, .int .i64 x.d] 42)).alloc (.cells #[.int .i64 y.a, .int .i64 y.b, .int .i64 y.c, .int .i64 y.d] 42)).alloc (.cells #[.int .i64 0, .int .i64 0, .int .i64 0, .int .i64 0] 42) = w0 at *
      refine (mulFrac_any x.a x.b y.a y.b _ HX.out.f HY.out.f).mono ?_
      rintro e w1 ⟨he, b1⟩
      rw [HM.out] at he
      obtain rfl : e = .returned (.tuple #[.agg #[.int .i64 mp, .int .i64 mq], .bool true]) := he
      replace Xa := Lib.hid (box_below Xa.out b1)
      replace Xb := Lib.hid (box_below Xb.out b1)
      replace Xr := Lib.hid (box_below Xr.out b1)
      replace HB := Lib.hid (HB.out.trans (b1.mono HB.out.size))
      clear b1
      have b1 := below_new w1 (.cells #[.int .i64 mp, .int .i64 mq] 40)
      have XM := Lib.hid (box_new w1 #[.int .i64 mp, .int .i64 mq] 40)
      replace Xa := Lib.hid (box_below Xa.out b1)
      replace Xb := Lib.hid (box_below Xb.out b1)
      replace Xr := Lib.hid (box_below Xr.out b1)
      replace HB := Lib.hid (HB.out.trans (b1.mono HB.out.size))
      clear b1
      have la := lt_of_block Xa.out
      have lb := lt_of_block Xb.out
      have a2 := box_cell Xa.out 2 _ rfl
      have a3 := box_cell Xa.out 3 _ rfl
      have b2 := box_cell Xb.out 2 _ rfl
      have b3 := box_cell Xb.out 3 _ rfl
      go_wp2_with fail
      clear la lb a2 a3 b2 b3
      generalize w1.alloc (.cells #[.int .i64 mp, .int .i64 mq] 40) = w2 at *
      refine (addFrac_any x.c x.d y.c y.d _ HX.out.g HY.out.g).mono ?_
      rintro e w3 ⟨he, b1⟩
      rw [HA.out] at he
      obtain rfl : e = .returned (.tuple #[.agg #[.int .i64 ap, .int .i64 aq], .bool true]) := he
      replace Xa := Lib.hid (box_below Xa.out b1)
      replace Xb := Lib.hid (box_below Xb.out b1)
      replace Xr := Lib.hid (box_below Xr.out b1)
      replace HB := Lib.hid (HB.out.trans (b1.mono HB.out.size))
      replace XM := Lib.hid (box_below XM.out b1)
      clear b1
      have b1 := below_new w3 (.cells #[.int .i64 ap, .int .i64 aq] 40)
      have XN := Lib.hid (box_new w3 #[.int .i64 ap, .int .i64 aq] 40)
      replace Xa := Lib.hid (box_below Xa.out b1)
      replace Xb := Lib.hid (box_below Xb.out b1)
      replace Xr := Lib.hid (box_below Xr.out b1)
      replace HB := Lib.hid (HB.out.trans (b1.mono HB.out.size))
      replace XM := Lib.hid (box_below XM.out b1)
      clear b1
      have lr := lt_of_block Xr.out
      have r0 := box_cell Xr.out 0 _ rfl
      have r1 := box_cell Xr.out 1 _ rfl
      have r2 := box_cell Xr.out 2 _ rfl
      have r3 := box_cell Xr.out 3 _ rfl
      have f0 := box_free Xr.out 0
      have f1 := box_free Xr.out 1
      have f2 := box_free Xr.out 2
      have f3 := box_free Xr.out 3
      have lm := lt_of_block XM.out
      have ln := lt_of_block XN.out
      have m0 := box_cell XM.out 0 _ rfl
      have m1 := box_cell XM.out 1 _ rfl
      have n0 := box_cell XN.out 0 _ rfl
      have n1 := box_cell XN.out 1 _ rfl
      have y4 := store_four Xr.out (.int .i64 mp) (.int .i64 mq) (.int .i64 ap) (.int .i64 aq)
      have e0 := box_cell y4 0 _ rfl
      have e1 := box_cell y4 1 _ rfl
      have e2 := box_cell y4 2 _ rfl
      have e3 := box_cell y4 3 _ rfl
      have HE := HB.out
      clear y4 HB HX HY Xa Xb Xr XM XN
      go_wp2
      exact bodyPost_ret (v := .tuple #[.agg #[.int .i64 mp, .int .i64 mq, .int .i64 ap, .int .i64 aq], .bool true]) (by simp [results, Tryz.results127, go_sem, e0, e1, e2, e3]) rfl ⟨rfl, below_four HE (by omega)⟩

set_option maxRecDepth 100000 in
set_option maxHeartbeats 2000000 in
theorem pTwo_any (x y : LosD) (R : Option LosD) (w : World) (hx : LosOk x) (hy : LosOk y) (hR : twoO x y = R) : Calls Tryz.prog 125 #[.agg #[.int .i64 x.a, .int .i64 x.b, .int .i64 x.c, .int .i64 x.d], .agg #[.int .i64 y.a, .int .i64 y.b, .int .i64 y.c, .int .i64 y.d]] w fun e w' => e = losE R ∧ Below w.heap.size w w' := by
  obtain ⟨b0, xa, xb, xr⟩ := box_3f w #[.int .i64 x.a, .int .i64 x.b, .int .i64 x.c, .int .i64 x.d] #[.int .i64 y.a, .int .i64 y.b, .int .i64 y.c, .int .i64 y.d] #[.int .i64 0, .int .i64 0, .int .i64 0, .int .i64 0] 42 42 42
  have Xa := Lib.hid xa
  have Xb := Lib.hid xb
  have Xr := Lib.hid xr
  have HB := Lib.hid b0
  have HX := Lib.hid hx
  have HY := Lib.hid hy
  clear xa xb xr b0 hx hy
  cases hm : mulO x.a x.b y.a y.b with
  | none =>
    have hr := hR.symm.trans (twoO_1 hm)
    subst hr
    have HM := Lib.hid hm
    clear hm hR
    cases ha : addO x.c x.d y.c y.d with
    | none =>
      have HA := Lib.hid ha
      clear ha
      go_enter Tryz.func125, Tryz.ntmps125
      have la := lt_of_block Xa.out
      have lb := lt_of_block Xb.out
      have a0 := box_cell Xa.out 0 _ rfl
      have a1 := box_cell Xa.out 1 _ rfl
      have b0 := box_cell Xb.out 0 _ rfl
      have b1 := box_cell Xb.out 1 _ rfl
      go_wp2_with fail
      clear la lb a0 a1 b0 b1
      generalize ((w.alloc (.cells #[.int .i64 x.a, .int .i64 x.b, .int .i64 x.c, .int .i64 x.d] 42)).alloc (.cells #[.int .i64 y.a, .int .i64 y.b, .int .i64 y.c, .int .i64 y.d] 42)).alloc (.cells #[.int .i64 0, .int .i64 0, .int .i64 0, .int .i64 0] 42) = w0 at *
      refine (fMul_any x.a x.b y.a y.b _ (fracB_sm HX.out.f).1 (fracB_sm HX.out.f).2.1 (fracB_sm HY.out.f).1 (fracB_sm HY.out.f).2.1).mono ?_
      rintro e w1 ⟨he, b1⟩
      rw [show redO (x.a * y.a) (x.b * y.b) = _ from HM.out] at he
      obtain rfl : e = .returned (.tuple #[.agg #[.int .i64 0, .int .i64 0], .bool false]) := he
      replace Xa := Lib.hid (box_below Xa.out b1)
      replace Xb := Lib.hid (box_below Xb.out b1)
      replace Xr := Lib.hid (box_below Xr.out b1)
      replace HB := Lib.hid (HB.out.trans (b1.mono HB.out.size))
      clear b1
      have b1 := below_new w1 (.cells #[.int .i64 0, .int .i64 0] 40)
      have XM := Lib.hid (box_new w1 #[.int .i64 0, .int .i64 0] 40)
      replace Xa := Lib.hid (box_below Xa.out b1)
      replace Xb := Lib.hid (box_below Xb.out b1)
      replace Xr := Lib.hid (box_below Xr.out b1)
      replace HB := Lib.hid (HB.out.trans (b1.mono HB.out.size))
      clear b1
      have la := lt_of_block Xa.out
      have lb := lt_of_block Xb.out
      have a2 := box_cell Xa.out 2 _ rfl
      have a3 := box_cell Xa.out 3 _ rfl
      have b2 := box_cell Xb.out 2 _ rfl
      have b3 := box_cell Xb.out 3 _ rfl
      go_wp2_with fail
      clear la lb a2 a3 b2 b3
      generalize w1.alloc (.cells #[.int .i64 0, .int .i64 0] 40) = w2 at *
      refine (fAdd_any x.c x.d y.c y.d _ (fracB_sm HX.out.g).1 (fracB_sm HX.out.g).2.1 (fracB_sm HY.out.g).1 (fracB_sm HY.out.g).2.1).mono ?_
      rintro e w3 ⟨he, b1⟩
      rw [show redO (x.c * y.d + y.c * x.d) (x.d * y.d) = _ from HA.out] at he
      obtain rfl : e = .returned (.tuple #[.agg #[.int .i64 0, .int .i64 0], .bool false]) := he
      replace Xa := Lib.hid (box_below Xa.out b1)
      replace Xb := Lib.hid (box_below Xb.out b1)
      replace Xr := Lib.hid (box_below Xr.out b1)
      replace HB := Lib.hid (HB.out.trans (b1.mono HB.out.size))
      replace XM := Lib.hid (box_below XM.out b1)
      clear b1
      have b1 := below_new w3 (.cells #[.int .i64 0, .int .i64 0] 40)
      have XN := Lib.hid (box_new w3 #[.int .i64 0, .int .i64 0] 40)
      replace Xa := Lib.hid (box_below Xa.out b1)
      replace Xb := Lib.hid (box_below Xb.out b1)
      replace Xr := Lib.hid (box_below Xr.out b1)
      replace HB := Lib.hid (HB.out.trans (b1.mono HB.out.size))
      replace XM := Lib.hid (box_below XM.out b1)
      clear b1
      have lr := lt_of_block Xr.out
      have r0 := box_cell Xr.out 0 _ rfl
      have r1 := box_cell Xr.out 1 _ rfl
      have r2 := box_cell Xr.out 2 _ rfl
      have r3 := box_cell Xr.out 3 _ rfl
      have f0 := box_free Xr.out 0
      have f1 := box_free Xr.out 1
      have f2 := box_free Xr.out 2
      have f3 := box_free Xr.out 3
      have y4 := store_four Xr.out (.int .i64 0) (.int .i64 0) (.int .i64 0) (.int .i64 0)
      have e0 := box_cell y4 0 _ rfl
      have e1 := box_cell y4 1 _ rfl
      have e2 := box_cell y4 2 _ rfl
      have e3 := box_cell y4 3 _ rfl
      have HE := HB.out
      clear y4 HB HX HY Xa Xb Xr
      go_wp2
      exact bodyPost_ret (v := .tuple #[.agg #[.int .i64 0, .int .i64 0, .int .i64 0, .int .i64 0], .bool false]) (by simp [results, Tryz.results125, go_sem, e0, e1, e2, e3]) rfl ⟨rfl, below_four HE (by omega)⟩
    | some s =>
      obtain ⟨ap, aq⟩ := s
      have HA := Lib.hid ha
      clear ha
      go_enter Tryz.func125, Tryz.ntmps125
      have la := lt_of_block Xa.out
      have lb := lt_of_block Xb.out
      have a0 := box_cell Xa.out 0 _ rfl
      have a1 := box_cell Xa.out 1 _ rfl
      have b0 := box_cell Xb.out 0 _ rfl
      have b1 := box_cell Xb.out 1 _ rfl
      go_wp2_with fail
      clear la lb a0 a1 b0 b1
      generalize ((w.alloc (.cells #[.int .i64 x.a, .int .i64 x.b, .int .i64 x.c, .int .i64 x.d] 42)).alloc (.cells #[.int .i64 y.a, .int .i64 y.b, .int .i64 y.c, .int .i64 y.d] 42)).alloc (.cells #[.int .i64 0, .int .i64 0, .int .i64 0, .int .i64 0] 42) = w0 at *
      refine (fMul_any x.a x.b y.a y.b _ (fracB_sm HX.out.f).1 (fracB_sm HX.out.f).2.1 (fracB_sm HY.out.f).1 (fracB_sm HY.out.f).2.1).mono ?_
      rintro e w1 ⟨he, b1⟩
      rw [show redO (x.a * y.a) (x.b * y.b) = _ from HM.out] at he
      obtain rfl : e = .returned (.tuple #[.agg #[.int .i64 0, .int .i64 0], .bool false]) := he
      replace Xa := Lib.hid (box_below Xa.out b1)
      replace Xb := Lib.hid (box_below Xb.out b1)
      replace Xr := Lib.hid (box_below Xr.out b1)
      replace HB := Lib.hid (HB.out.trans (b1.mono HB.out.size))
      clear b1
      have b1 := below_new w1 (.cells #[.int .i64 0, .int .i64 0] 40)
      have XM := Lib.hid (box_new w1 #[.int .i64 0, .int .i64 0] 40)
      replace Xa := Lib.hid (box_below Xa.out b1)
      replace Xb := Lib.hid (box_below Xb.out b1)
      replace Xr := Lib.hid (box_below Xr.out b1)
      replace HB := Lib.hid (HB.out.trans (b1.mono HB.out.size))
      clear b1
      have la := lt_of_block Xa.out
      have lb := lt_of_block Xb.out
      have a2 := box_cell Xa.out 2 _ rfl
      have a3 := box_cell Xa.out 3 _ rfl
      have b2 := box_cell Xb.out 2 _ rfl
      have b3 := box_cell Xb.out 3 _ rfl
      go_wp2_with fail
      clear la lb a2 a3 b2 b3
      generalize w1.alloc (.cells #[.int .i64 0, .int .i64 0] 40) = w2 at *
      refine (fAdd_any x.c x.d y.c y.d _ (fracB_sm HX.out.g).1 (fracB_sm HX.out.g).2.1 (fracB_sm HY.out.g).1 (fracB_sm HY.out.g).2.1).mono ?_
      rintro e w3 ⟨he, b1⟩
      rw [show redO (x.c * y.d + y.c * x.d) (x.d * y.d) = _ from HA.out] at he
      obtain rfl : e = .returned (.tuple #[.agg #[.int .i64 ap, .int .i64 aq], .bool true]) := he
      replace Xa := Lib.hid (box_below Xa.out b1)
      replace Xb := Lib.hid (box_below Xb.out b1)
      replace Xr := Lib.hid (box_below Xr.out b1)
      replace HB := Lib.hid (HB.out.trans (b1.mono HB.out.size))
      replace XM := Lib.hid (box_below XM.out b1)
      clear b1
      have b1 := below_new w3 (.cells #[.int .i64 ap, .int .i64 aq] 40)
      have XN := Lib.hid (box_new w3 #[.int .i64 ap, .int .i64 aq] 40)
      replace Xa := Lib.hid (box_below Xa.out b1)
      replace Xb := Lib.hid (box_below Xb.out b1)
      replace Xr := Lib.hid (box_below Xr.out b1)
      replace HB := Lib.hid (HB.out.trans (b1.mono HB.out.size))
      replace XM := Lib.hid (box_below XM.out b1)
      clear b1
      have lr := lt_of_block Xr.out
      have r0 := box_cell Xr.out 0 _ rfl
      have r1 := box_cell Xr.out 1 _ rfl
      have r2 := box_cell Xr.out 2 _ rfl
      have r3 := box_cell Xr.out 3 _ rfl
      have f0 := box_free Xr.out 0
      have f1 := box_free Xr.out 1
      have f2 := box_free Xr.out 2
      have f3 := box_free Xr.out 3
      have y4 := store_four Xr.out (.int .i64 0) (.int .i64 0) (.int .i64 0) (.int .i64 0)
      have e0 := box_cell y4 0 _ rfl
      have e1 := box_cell y4 1 _ rfl
      have e2 := box_cell y4 2 _ rfl
      have e3 := box_cell y4 3 _ rfl
      have HE := HB.out
      clear y4 HB HX HY Xa Xb Xr
      go_wp2
      exact bodyPost_ret (v := .tuple #[.agg #[.int .i64 0, .int .i64 0, .int .i64 0, .int .i64 0], .bool false]) (by simp [results, Tryz.results125, go_sem, e0, e1, e2, e3]) rfl ⟨rfl, below_four HE (by omega)⟩
  | some r =>
    obtain ⟨mp, mq⟩ := r
    have HM := Lib.hid hm
    cases ha : addO x.c x.d y.c y.d with
    | none =>
      have hr := hR.symm.trans (twoO_2 ha)
      subst hr
      have HA := Lib.hid ha
      clear ha hm hR
      go_enter Tryz.func125, Tryz.ntmps125
      have la := lt_of_block Xa.out
      have lb := lt_of_block Xb.out
      have a0 := box_cell Xa.out 0 _ rfl
      have a1 := box_cell Xa.out 1 _ rfl
      have b0 := box_cell Xb.out 0 _ rfl
      have b1 := box_cell Xb.out 1 _ rfl
      go_wp2_with fail
      clear la lb a0 a1 b0 b1
      generalize ((w.alloc (.cells #[.int .i64 x.a, .int .i64 x.b, .int .i64 x.c, .int .i64 x.d] 42)).alloc (.cells #[.int .i64 y.a, .int .i64 y.b, .int .i64 y.c, .int .i64 y.d] 42)).alloc (.cells #[.int .i64 0, .int .i64 0, .int .i64 0, .int .i64 0] 42) = w0 at *
      refine (fMul_any x.a x.b y.a y.b _ (fracB_sm HX.out.f).1 (fracB_sm HX.out.f).2.1 (fracB_sm HY.out.f).1 (fracB_sm HY.out.f).2.1).mono ?_
      rintro e w1 ⟨he, b1⟩
      rw [show redO (x.a * y.a) (x.b * y.b) = _ from HM.out] at he
      obtain rfl : e = .returned (.tuple #[.agg #[.int .i64 mp, .int .i64 mq], .bool true]) := he
      replace Xa := Lib.hid (box_below Xa.out b1)
      replace Xb := Lib.hid (box_below Xb.out b1)
      replace Xr := Lib.hid (box_below Xr.out b1)
      replace HB := Lib.hid (HB.out.trans (b1.mono HB.out.size))
      clear b1
      have b1 := below_new w1 (.cells #[.int .i64 mp, .int .i64 mq] 40)
      have XM := Lib.hid (box_new w1 #[.int .i64 mp, .int .i64 mq] 40)
      replace Xa := Lib.hid (box_below Xa.out b1)
      replace Xb := Lib.hid (box_below Xb.out b1)
      replace Xr := Lib.hid (box_below Xr.out b1)
      replace HB := Lib.hid (HB.out.trans (b1.mono HB.out.size))
      clear b1
      have la := lt_of_block Xa.out
      have lb := lt_of_block Xb.out
      have a2 := box_cell Xa.out 2 _ rfl
      have a3 := box_cell Xa.out 3 _ rfl
      have b2 := box_cell Xb.out 2 _ rfl
      have b3 := box_cell Xb.out 3 _ rfl
      go_wp2_with fail
      clear la lb a2 a3 b2 b3
      generalize w1.alloc (.cells #[.int .i64 mp, .int .i64 mq] 40) = w2 at *
      refine (fAdd_any x.c x.d y.c y.d _ (fracB_sm HX.out.g).1 (fracB_sm HX.out.g).2.1 (fracB_sm HY.out.g).1 (fracB_sm HY.out.g).2.1).mono ?_
      rintro e w3 ⟨he, b1⟩
      rw [show redO (x.c * y.d + y.c * x.d) (x.d * y.d) = _ from HA.out] at he
      obtain rfl : e = .returned (.tuple #[.agg #[.int .i64 0, .int .i64 0], .bool false]) := he
      replace Xa := Lib.hid (box_below Xa.out b1)
      replace Xb := Lib.hid (box_below Xb.out b1)
      replace Xr := Lib.hid (box_below Xr.out b1)
      replace HB := Lib.hid (HB.out.trans (b1.mono HB.out.size))
      replace XM := Lib.hid (box_below XM.out b1)
      clear b1
      have b1 := below_new w3 (.cells #[.int .i64 0, .int .i64 0] 40)
      have XN := Lib.hid (box_new w3 #[.int .i64 0, .int .i64 0] 40)
      replace Xa := Lib.hid (box_below Xa.out b1)
      replace Xb := Lib.hid (box_below Xb.out b1)
      replace Xr := Lib.hid (box_below Xr.out b1)
      replace HB := Lib.hid (HB.out.trans (b1.mono HB.out.size))
      replace XM := Lib.hid (box_below XM.out b1)
      clear b1
      have lr := lt_of_block Xr.out
      have r0 := box_cell Xr.out 0 _ rfl
      have r1 := box_cell Xr.out 1 _ rfl
      have r2 := box_cell Xr.out 2 _ rfl
      have r3 := box_cell Xr.out 3 _ rfl
      have f0 := box_free Xr.out 0
      have f1 := box_free Xr.out 1
      have f2 := box_free Xr.out 2
      have f3 := box_free Xr.out 3
      have y4 := store_four Xr.out (.int .i64 0) (.int .i64 0) (.int .i64 0) (.int .i64 0)
      have e0 := box_cell y4 0 _ rfl
      have e1 := box_cell y4 1 _ rfl
      have e2 := box_cell y4 2 _ rfl
      have e3 := box_cell y4 3 _ rfl
      have HE := HB.out
      clear y4 HB HX HY Xa Xb Xr
      go_wp2
      exact bodyPost_ret (v := .tuple #[.agg #[.int .i64 0, .int .i64 0, .int .i64 0, .int .i64 0], .bool false]) (by simp [results, Tryz.results125, go_sem, e0, e1, e2, e3]) rfl ⟨rfl, below_four HE (by omega)⟩
    | some s =>
      obtain ⟨ap, aq⟩ := s
      have hr := hR.symm.trans (twoO_3 hm ha)
      subst hr
      have HA := Lib.hid ha
      clear ha hm hR
      go_enter Tryz.func125, Tryz.ntmps125
      have la := lt_of_block Xa.out
      have lb := lt_of_block Xb.out
      have a0 := box_cell Xa.out 0 _ rfl
      have a1 := box_cell Xa.out 1 _ rfl
      have b0 := box_cell Xb.out 0 _ rfl
      have b1 := box_cell Xb.out 1 _ rfl
      go_wp2_with fail
      clear la lb a0 a1 b0 b1
      generalize ((w.alloc (.cells #[.int .i64 x.a, .int .i64 x.b, .int .i64 x.c, .int .i64 x.d] 42)).alloc (.cells #[.int .i64 y.a, .int .i64 y.b, .int .i64 y.c, .int .i64 y.d] 42)).alloc (.cells #[.int .i64 0, .int .i64 0, .int .i64 0, .int .i64 0] 42) = w0 at *
      refine (fMul_any x.a x.b y.a y.b _ (fracB_sm HX.out.f).1 (fracB_sm HX.out.f).2.1 (fracB_sm HY.out.f).1 (fracB_sm HY.out.f).2.1).mono ?_
      rintro e w1 ⟨he, b1⟩
      rw [show redO (x.a * y.a) (x.b * y.b) = _ from HM.out] at he
      obtain rfl : e = .returned (.tuple #[.agg #[.int .i64 mp, .int .i64 mq], .bool true]) := he
      replace Xa := Lib.hid (box_below Xa.out b1)
      replace Xb := Lib.hid (box_below Xb.out b1)
      replace Xr := Lib.hid (box_below Xr.out b1)
      replace HB := Lib.hid (HB.out.trans (b1.mono HB.out.size))
      clear b1
      have b1 := below_new w1 (.cells #[.int .i64 mp, .int .i64 mq] 40)
      have XM := Lib.hid (box_new w1 #[.int .i64 mp, .int .i64 mq] 40)
      replace Xa := Lib.hid (box_below Xa.out b1)
      replace Xb := Lib.hid (box_below Xb.out b1)
      replace Xr := Lib.hid (box_below Xr.out b1)
      replace HB := Lib.hid (HB.out.trans (b1.mono HB.out.size))
      clear b1
      have la := lt_of_block Xa.out
      have lb := lt_of_block Xb.out
      have a2 := box_cell Xa.out 2 _ rfl
      have a3 := box_cell Xa.out 3 _ rfl
      have b2 := box_cell Xb.out 2 _ rfl
      have b3 := box_cell Xb.out 3 _ rfl
      go_wp2_with fail
      clear la lb a2 a3 b2 b3
      generalize w1.alloc (.cells #[.int .i64 mp, .int .i64 mq] 40) = w2 at *
      refine (fAdd_any x.c x.d y.c y.d _ (fracB_sm HX.out.g).1 (fracB_sm HX.out.g).2.1 (fracB_sm HY.out.g).1 (fracB_sm HY.out.g).2.1).mono ?_
      rintro e w3 ⟨he, b1⟩
      rw [show redO (x.c * y.d + y.c * x.d) (x.d * y.d) = _ from HA.out] at he
      obtain rfl : e = .returned (.tuple #[.agg #[.int .i64 ap, .int .i64 aq], .bool true]) := he
      replace Xa := Lib.hid (box_below Xa.out b1)
      replace Xb := Lib.hid (box_below Xb.out b1)
      replace Xr := Lib.hid (box_below Xr.out b1)
      replace HB := Lib.hid (HB.out.trans (b1.mono HB.out.size))
      replace XM := Lib.hid (box_below XM.out b1)
      clear b1
      have b1 := below_new w3 (.cells #[.int .i64 ap, .int .i64 aq] 40)
      have XN := Lib.hid (box_new w3 #[.int .i64 ap, .int .i64 aq] 40)
      replace Xa := Lib.hid (box_below Xa.out b1)
      replace Xb := Lib.hid (box_below Xb.out b1)
      replace Xr := Lib.hid (box_below Xr.out b1)
      replace HB := Lib.hid (HB.out.trans (b1.mono HB.out.size))
      replace XM := Lib.hid (box_below XM.out b1)
      clear b1
      have lr := lt_of_block Xr.out
      have r0 := box_cell Xr.out 0 _ rfl
      have r1 := box_cell Xr.out 1 _ rfl
      have r2 := box_cell Xr.out 2 _ rfl
      have r3 := box_cell Xr.out 3 _ rfl
      have f0 := box_free Xr.out 0
      have f1 := box_free Xr.out 1
      have f2 := box_free Xr.out 2
      have f3 := box_free Xr.out 3
      have lm := lt_of_block XM.out
      have ln := lt_of_block XN.out
      have m0 := box_cell XM.out 0 _ rfl
      have m1 := box_cell XM.out 1 _ rfl
      have n0 := box_cell XN.out 0 _ rfl
      have n1 := box_cell XN.out 1 _ rfl
      have y4 := store_four Xr.out (.int .i64 mp) (.int .i64 mq) (.int .i64 ap) (.int .i64 aq)
      have e0 := box_cell y4 0 _ rfl
      have e1 := box_cell y4 1 _ rfl
      have e2 := box_cell y4 2 _ rfl
      have e3 := box_cell y4 3 _ rfl
      have HE := HB.out
      clear y4 HB HX HY Xa Xb Xr XM XN
      go_wp2
      exact bodyPost_ret (v := .tuple #[.agg #[.int .i64 mp, .int .i64 mq, .int .i64 ap, .int .i64 aq], .bool true]) (by simp [results, Tryz.results125, go_sem, e0, e1, e2, e3]) rfl ⟨rfl, below_four HE (by omega)⟩
end Go.Proofs.YtfanpbfmnckmnaaGreat
