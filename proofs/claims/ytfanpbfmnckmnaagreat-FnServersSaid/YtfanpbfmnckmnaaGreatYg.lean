/- Several small texts in one: LosA, LosB. -/
import Derived.Test.YtfanpbfmnckmnaaGreatSrvP
import Derived.BigQuiet
namespace Go.Proofs.YtfanpbfmnckmnaaGreat

section
open Go.RowKit

set_option maxHeartbeats 800000 in
theorem mulFrac_any (n d p q : Int) (w : World) (h1 : fracB n d = true) (h2 : fracB p q = true) :
    Calls Tryz.prog 171 #[.agg #[.int .i64 n, .int .i64 d], .agg #[.int .i64 p, .int .i64 q]] w fun e w' => e = .returned (.tuple #[.agg #[.int .i64 (fN (mulO n d p q)), .int .i64 (fD (mulO n d p q))], .bool (fB (mulO n d p q))]) ∧ Below w.heap.size w w' := by
  obtain ⟨hn, hd, hd1⟩ := fracB_sm h1
  obtain ⟨hp, hq, hq1⟩ := fracB_sm h2
  have m0 := sm_mul hn hp
  have m1 := sm_mul hd hq
  obtain ⟨m0a, m0b⟩ := m0
  obtain ⟨m1a, m1b⟩ := m1
  have H1 := Lib.hid h1
  have H2 := Lib.hid h2
  clear h1 h2
  obtain ⟨b0, x0, x1, x4⟩ := box_3f w #[.int .i64 n, .int .i64 d] #[.int .i64 p, .int .i64 q] #[.int .i64 0, .int .i64 0] 40 40 40
  have E : Hid (mulO n d p q = redO (n * p) (d * q)) := Lib.hid rfl
  have hne : d * q ≠ 0 := Int.mul_ne_zero (by omega) (by omega)
  go_enter Tryz.func171, Tryz.ntmps171
  go_wp2_with fail
  generalize ((w.alloc (.cells #[.int .i64 n, .int .i64 d] 40)).alloc (.cells #[.int .i64 p, .int .i64 q] 40)).alloc (.cells #[.int .i64 0, .int .i64 0] 40) = w0 at *
  refine (isFrac_any _ _ _).mono ?_
  rintro e w1 ⟨rfl, b1⟩
  rw [H1.out]
  replace x0 := bxb x0 b1
  replace x1 := bxb x1 b1
  replace x4 := bxb x4 b1
  replace b1 := b0.trans (b1.mono b0.size)
  clear b0
  have a0 := bxc x0 0 _ rfl
  have a1 := bxc x0 1 _ rfl
  have b00 := bxc x1 0 _ rfl
  have b01 := bxc x1 1 _ rfl
  have d0 := bxc x4 0 _ rfl
  have d1 := bxc x4 1 _ rfl
  have f0 := bxf x4 0
  have f1 := bxf x4 1
  go_wp2_with fail
  refine (isFrac_any _ _ _).mono ?_
  rintro e w2 ⟨rfl, b2⟩
  rw [H2.out]
  replace x0 := bxb x0 b2
  replace x1 := bxb x1 b2
  replace x4 := bxb x4 b2
  replace b2 := b1.trans (b2.mono b1.size)
  clear b1
  have a0 := bxc x0 0 _ rfl
  have a1 := bxc x0 1 _ rfl
  have b00 := bxc x1 0 _ rfl
  have b01 := bxc x1 1 _ rfl
  have d0 := bxc x4 0 _ rfl
  have d1 := bxc x4 1 _ rfl
  have f0 := bxf x4 0
  have f1 := bxf x4 1
  go_wp2_with fail
  refine (reduced_any _ _ _ (by omega) (by omega) (by omega) (by omega) hne).mono ?_
  rintro e w3 ⟨rfl, b3⟩
  rw [← E.out]
  replace x4 := bxb x4 b3
  replace b3 := b2.trans (b3.mono b2.size)
  clear b2
  have d0 := bxc x4 0 _ rfl
  have d1 := bxc x4 1 _ rfl
  have f0 := bxf x4 0
  have f1 := bxf x4 1
  have y4 := store_two x4 (.int .i64 (fN (mulO n d p q))) (.int .i64 (fD (mulO n d p q)))
  have e0 := bxc y4 0 _ rfl
  have e1 := bxc y4 1 _ rfl
  clear m0a m0b m1a m1b
  go_wp2
  refine bodyPost_ret (v := .tuple #[.agg #[.int .i64 (fN (mulO n d p q)), .int .i64 (fD (mulO n d p q))], .bool (fB (mulO n d p q))]) (by simp [results, Tryz.results171, go_sem, e0, e1]) rfl ⟨rfl, below_two b3 (by omega)⟩

theorem store_four {w : World} {g : Nat} {T : TypeId} {p q r s : Value} (h : w.heap[g]? = some (.cells #[p, q, r, s] T (0, 0))) (a b c d : Value) :
    ((((w.setCell ⟨g, 0, none⟩ a).setCell ⟨g, 1, none⟩ b).setCell ⟨g, 2, none⟩ c).setCell ⟨g, 3, none⟩ d).heap[g]? = some (.cells #[a, b, c, d] T (0, 0)) :=
  box_set (box_set (box_set (box_set h 0 a) 1 b) 2 c) 3 d
theorem below_four {w0 w : World} {B g : Nat} {a b c d : Value} (h : Below B w0 w) (hg : B ≤ g) : Below B w0 ((((w.setCell ⟨g, 0, none⟩ a).setCell ⟨g, 1, none⟩ b).setCell ⟨g, 2, none⟩ c).setCell ⟨g, 3, none⟩ d) := (((h.setCell (by exact hg) _).setCell (by exact hg) _).setCell (by exact hg) _).setCell (by exact hg) _
/-- What a function of losses returns. -/
def losE : Option LosD → Ending
  | none => .returned (.tuple #[.agg #[.int .i64 0, .int .i64 0, .int .i64 0, .int .i64 0], .bool false])
  | some z => .returned (.tuple #[.agg #[.int .i64 z.a, .int .i64 z.b, .int .i64 z.c, .int .i64 z.d], .bool true])
theorem losB_1 {x : LosD} (h : fracB x.a x.b = false) : false = losB x := by unfold losB; rw [h]; rfl
theorem losB_2 {x : LosD} (h : fracB x.c x.d = false) : false = losB x := by unfold losB; rw [h]; simp
theorem losB_3 {x : LosD} (h : ¬ x.b ≤ x.a) : false = losB x := by unfold losB; rw [decide_eq_false h]; simp
theorem losB_4 {x : LosD} (h1 : fracB x.a x.b = true) (h2 : fracB x.c x.d = true) (h : x.b ≤ x.a) : decide (0 ≤ x.c) = losB x := by unfold losB; rw [h1, h2, decide_eq_true h]; rfl

set_option maxRecDepth 100000 in
set_option maxHeartbeats 2000000 in
theorem IsLoss_any (x : LosD) (w : World) : Calls Tryz.prog 62 #[.agg #[.int .i64 x.a, .int .i64 x.b, .int .i64 x.c, .int .i64 x.d]] w fun e w' => e = .returned (.bool (losB x)) ∧ Below w.heap.size w w' := by
  have b0 := below_new w (.cells #[.int .i64 x.a, .int .i64 x.b, .int .i64 x.c, .int .i64 x.d] 42)
  have Xa := Lib.hid (box_new w #[.int .i64 x.a, .int .i64 x.b, .int .i64 x.c, .int .i64 x.d] 42)
  have HB := Lib.hid b0
  clear b0
  cases h0 : fracB x.a x.b
  · have R := Lib.hid (losB_1 h0)
    have H0 := Lib.hid h0
    clear h0
    go_enter Tryz.func62, Tryz.ntmps62
    have l0 := lt_of_block Xa.out
    have c0 := bxc Xa.out 0 _ rfl
    have c1 := bxc Xa.out 1 _ rfl
    go_wp2_with fail
    clear l0 c0 c1
    generalize w.alloc (.cells #[.int .i64 x.a, .int .i64 x.b, .int .i64 x.c, .int .i64 x.d] 42) = w0 at *
    refine (isFrac_any x.a x.b _).mono ?_
    rintro e w1 ⟨rfl, b1⟩
    rw [H0.out]
    replace Xa := Lib.hid (bxb Xa.out b1)
    replace HB := Lib.hid (HB.out.trans (b1.mono HB.out.size))
    clear b1
    go_wp2
    go_ret
    exact ⟨ret_bool R.out, HB.out⟩
  have H0 := Lib.hid h0
  clear h0
  cases h1 : fracB x.c x.d
  · have R := Lib.hid (losB_2 h1)
    have H1 := Lib.hid h1
    clear h1
    go_enter Tryz.func62, Tryz.ntmps62
    have l0 := lt_of_block Xa.out
    have c0 := bxc Xa.out 0 _ rfl
    have c1 := bxc Xa.out 1 _ rfl
    go_wp2_with fail
    clear l0 c0 c1
    generalize w.alloc (.cells #[.int .i64 x.a, .int .i64 x.b, .int .i64 x.c, .int .i64 x.d] 42) = w0 at *
    refine (isFrac_any x.a x.b _).mono ?_
    rintro e w1 ⟨rfl, b1⟩
    rw [H0.out]
    replace Xa := Lib.hid (bxb Xa.out b1)
    replace HB := Lib.hid (HB.out.trans (b1.mono HB.out.size))
    clear b1
    have l0 := lt_of_block Xa.out
    have c2 := bxc Xa.out 2 _ rfl
    have c3 := bxc Xa.out 3 _ rfl
    go_wp2_with fail
    clear l0 c2 c3
    refine (isFrac_any x.c x.d _).mono ?_
    rintro e w2 ⟨rfl, b1⟩
    rw [H1.out]
    replace Xa := Lib.hid (bxb Xa.out b1)
    replace HB := Lib.hid (HB.out.trans (b1.mono HB.out.size))
    clear b1
    go_wp2
    go_ret
    exact ⟨ret_bool R.out, HB.out⟩
  have H1 := Lib.hid h1
  clear h1
  go_enter Tryz.func62, Tryz.ntmps62
  have l0 := lt_of_block Xa.out
  have c0 := bxc Xa.out 0 _ rfl
  have c1 := bxc Xa.out 1 _ rfl
  go_wp2_with fail
  clear l0 c0 c1
  generalize w.alloc (.cells #[.int .i64 x.a, .int .i64 x.b, .int .i64 x.c, .int .i64 x.d] 42) = w0 at *
  refine (isFrac_any x.a x.b _).mono ?_
  rintro e w1 ⟨rfl, b1⟩
  rw [H0.out]
  replace Xa := Lib.hid (bxb Xa.out b1)
  replace HB := Lib.hid (HB.out.trans (b1.mono HB.out.size))
  clear b1
  have l0 := lt_of_block Xa.out
  have c2 := bxc Xa.out 2 _ rfl
  have c3 := bxc Xa.out 3 _ rfl
  go_wp2_with fail
  clear l0 c2 c3
  refine (isFrac_any x.c x.d _).mono ?_
  rintro e w2 ⟨rfl, b1⟩
  rw [H1.out]
  replace Xa := Lib.hid (bxb Xa.out b1)
  replace HB := Lib.hid (HB.out.trans (b1.mono HB.out.size))
  clear b1
  have l0 := lt_of_block Xa.out
  have c0 := bxc Xa.out 0 _ rfl
  have c1 := bxc Xa.out 1 _ rfl
  have c2 := bxc Xa.out 2 _ rfl
  by_cases h2 : x.b ≤ x.a
  · have R := Lib.hid (losB_4 H0.out H1.out h2)
    go_wp2
    go_ret
    exact ⟨ret_bool R.out, HB.out⟩
  · have R := Lib.hid (losB_3 h2)
    go_wp2
    go_ret
    exact ⟨ret_bool R.out, HB.out⟩

set_option maxRecDepth 100000 in
set_option maxHeartbeats 2000000 in
theorem pGood_any (x : LosD) (w : World) : Calls Tryz.prog 107 #[.agg #[.int .i64 x.a, .int .i64 x.b, .int .i64 x.c, .int .i64 x.d]] w fun e w' => e = .returned (.bool (losB x)) ∧ Below w.heap.size w w' := by
  have b0 := below_new w (.cells #[.int .i64 x.a, .int .i64 x.b, .int .i64 x.c, .int .i64 x.d] 42)
  have Xa := Lib.hid (box_new w #[.int .i64 x.a, .int .i64 x.b, .int .i64 x.c, .int .i64 x.d] 42)
  have HB := Lib.hid b0
  clear b0
  cases h0 : fracB x.a x.b
  · have R := Lib.hid (losB_1 h0)
    have H0 := Lib.hid h0
    clear h0
    go_enter Tryz.func107, Tryz.ntmps107
    have l0 := lt_of_block Xa.out
    have c0 := bxc Xa.out 0 _ rfl
    have c1 := bxc Xa.out 1 _ rfl
    go_wp2_with fail
    clear l0 c0 c1
    generalize w.alloc (.cells #[.int .i64 x.a, .int .i64 x.b, .int .i64 x.c, .int .i64 x.d] 42) = w0 at *
    refine (fGood_any x.a x.b _).mono ?_
    rintro e w1 ⟨rfl, b1⟩
    rw [H0.out]
    replace Xa := Lib.hid (bxb Xa.out b1)
    replace HB := Lib.hid (HB.out.trans (b1.mono HB.out.size))
    clear b1
    go_wp2
    go_ret
    exact ⟨ret_bool R.out, HB.out⟩
  have H0 := Lib.hid h0
  clear h0
  cases h1 : fracB x.c x.d
  · have R := Lib.hid (losB_2 h1)
    have H1 := Lib.hid h1
    clear h1
    go_enter Tryz.func107, Tryz.ntmps107
    have l0 := lt_of_block Xa.out
    have c0 := bxc Xa.out 0 _ rfl
    have c1 := bxc Xa.out 1 _ rfl
    go_wp2_with fail
    clear l0 c0 c1
    generalize w.alloc (.cells #[.int .i64 x.a, .int .i64 x.b, .int .i64 x.c, .int .i64 x.d] 42) = w0 at *
    refine (fGood_any x.a x.b _).mono ?_
    rintro e w1 ⟨rfl, b1⟩
    rw [H0.out]
    replace Xa := Lib.hid (bxb Xa.out b1)
    replace HB := Lib.hid (HB.out.trans (b1.mono HB.out.size))
    clear b1
    have l0 := lt_of_block Xa.out
    have c2 := bxc Xa.out 2 _ rfl
    have c3 := bxc Xa.out 3 _ rfl
    go_wp2_with fail
    clear l0 c2 c3
    refine (fGood_any x.c x.d _).mono ?_
    rintro e w2 ⟨rfl, b1⟩
    rw [H1.out]
    replace Xa := Lib.hid (bxb Xa.out b1)
    replace HB := Lib.hid (HB.out.trans (b1.mono HB.out.size))
    clear b1
    go_wp2
    go_ret
    exact ⟨ret_bool R.out, HB.out⟩
  have H1 := Lib.hid h1
  clear h1
  go_enter Tryz.func107, Tryz.ntmps107
  have l0 := lt_of_block Xa.out
  have c0 := bxc Xa.out 0 _ rfl
  have c1 := bxc Xa.out 1 _ rfl
  go_wp2_with fail
  clear l0 c0 c1
  generalize w.alloc (.cells #[.int .i64 x.a, .int .i64 x.b, .int .i64 x.c, .int .i64 x.d] 42) = w0 at *
  refine (fGood_any x.a x.b _).mono ?_
  rintro e w1 ⟨rfl, b1⟩
  rw [H0.out]
  replace Xa := Lib.hid (bxb Xa.out b1)
  replace HB := Lib.hid (HB.out.trans (b1.mono HB.out.size))
  clear b1
  have l0 := lt_of_block Xa.out
  have c2 := bxc Xa.out 2 _ rfl
  have c3 := bxc Xa.out 3 _ rfl
  go_wp2_with fail
  clear l0 c2 c3
  refine (fGood_any x.c x.d _).mono ?_
  rintro e w2 ⟨rfl, b1⟩
  rw [H1.out]
  replace Xa := Lib.hid (bxb Xa.out b1)
  replace HB := Lib.hid (HB.out.trans (b1.mono HB.out.size))
  clear b1
  have l0 := lt_of_block Xa.out
  have c0 := bxc Xa.out 0 _ rfl
  have c1 := bxc Xa.out 1 _ rfl
  have c2 := bxc Xa.out 2 _ rfl
  by_cases h2 : x.b ≤ x.a
  · have R := Lib.hid (losB_4 H0.out H1.out h2)
    go_wp2
    go_ret
    exact ⟨ret_bool R.out, HB.out⟩
  · have R := Lib.hid (losB_3 h2)
    go_wp2
    go_ret
    exact ⟨ret_bool R.out, HB.out⟩

set_option maxRecDepth 100000 in
set_option maxHeartbeats 2000000 in
theorem NoLoss_any (w : World) : Calls Tryz.prog 126 #[] w fun e w' => e = .returned (.agg #[.int .i64 1, .int .i64 1, .int .i64 0, .int .i64 1]) ∧ Below w.heap.size w w' := by
  have b0 := below_new w (.cells #[.int .i64 1, .int .i64 1, .int .i64 0, .int .i64 1] 42)
  have y := box_new w #[.int .i64 1, .int .i64 1, .int .i64 0, .int .i64 1] 42
  have e0 := bxc y 0 _ rfl
  have e1 := bxc y 1 _ rfl
  have e2 := bxc y 2 _ rfl
  have e3 := bxc y 3 _ rfl
  go_enter Tryz.func126, Tryz.ntmps126
  go_wp2
  exact bodyPost_ret (v := .agg #[.int .i64 1, .int .i64 1, .int .i64 0, .int .i64 1]) (by simp [results, Tryz.results126, go_sem, e0, e1, e2, e3]) rfl ⟨rfl, b0⟩

set_option maxRecDepth 100000 in
set_option maxHeartbeats 2000000 in
theorem pNone_any (w : World) : Calls Tryz.prog 124 #[] w fun e w' => e = .returned (.agg #[.int .i64 1, .int .i64 1, .int .i64 0, .int .i64 1]) ∧ Below w.heap.size w w' := by
  have b0 := below_new w (.cells #[.int .i64 0, .int .i64 0, .int .i64 0, .int .i64 0] 42)
  have X := box_new w #[.int .i64 0, .int .i64 0, .int .i64 0, .int .i64 0] 42
  go_enter Tryz.func124, Tryz.ntmps124
  go_wp2_with fail
  generalize w.alloc (.cells #[.int .i64 0, .int .i64 0, .int .i64 0, .int .i64 0] 42) = w0 at *
  refine (fInt_any 1 _).mono ?_
  rintro e w1 ⟨rfl, b1⟩
  replace X := bxb X b1
  replace b0 := b0.trans (b1.mono b0.size)
  go_wp2_with fail
  refine (fInt_any 0 _).mono ?_
  rintro e w2 ⟨rfl, b2⟩
  replace X := bxb X b2
  replace b0 := b0.trans (b2.mono b0.size)
  have l0 := lt_of_block X
  have c0 := bxc X 0 _ rfl
  have c1 := bxc X 1 _ rfl
  have c2 := bxc X 2 _ rfl
  have c3 := bxc X 3 _ rfl
  have f0 := bxf X 0
  have f1 := bxf X 1
  have f2 := bxf X 2
  have f3 := bxf X 3
  have y := store_four X (.int .i64 1) (.int .i64 1) (.int .i64 0) (.int .i64 1)
  have e0 := bxc y 0 _ rfl
  have e1 := bxc y 1 _ rfl
  have e2 := bxc y 2 _ rfl
  have e3 := bxc y 3 _ rfl
  go_wp2
  exact bodyPost_ret (v := .agg #[.int .i64 1, .int .i64 1, .int .i64 0, .int .i64 1]) (by simp [results, Tryz.results124, go_sem, e0, e1, e2, e3]) rfl ⟨rfl, below_four b0 (Nat.le_refl _)⟩

set_option maxRecDepth 100000 in
set_option maxHeartbeats 2000000 in
theorem composed_any (x y : LosD) (R : Option LosD) (w : World) (hx : LosOk x) (hy : LosOk y) (hR : twoO x y = R) : Calls Tryz.prog 127 #[.agg #[.int .i64 x.a, .int .i64 x.b, .int .i64 x.c, .int .i64 x.d], .agg #[.int .i64 y.a, .int .i64 y.b, .int .i64 y.c, .int .i64 y.d]] w fun e w' => e = losE R ∧ Below w.heap.size w w' := by
  obtain ⟨b0, xa, xb, xr⟩ := box_3f w #[.int .i64 x.a, .int .i64 x.b, .int .i64 x.c, .int .i64 x.d] #[.int .i64 y.a, .int .i64 y.b, .int .i64 y.c, .int .i64 y.d] #[.int .i64 0, .int .i64 0, .int .i64 0, .int .i64 0] 42 42 42
  have Xa := Lib.hid xa
  have Xb := Lib.hid xb
  have Xr := Lib.hid xr
  have HB := Lib.hid b0
  have HX := Lib.hid hx
  have HY := Lib.hid hy
  clear xa xb xr b0 hx hy
  cases hm : mulO x.a x.b y.a y.b with
  | none =>
    have hr := hR.symm.trans (twoO_1 hm)
    subst hr
    have HM := Lib.hid hm
    clear hm hR
    go_enter Tryz.func127, Tryz.ntmps127
    have la := lt_of_block Xa.out
    have lb := lt_of_block Xb.out
    have a0 := bxc Xa.out 0 _ rfl
    have a1 := bxc Xa.out 1 _ rfl
    have b0 := bxc Xb.out 0 _ rfl
    have b1 := bxc Xb.out 1 _ rfl
    go_wp2_with fail
    clear la lb a0 a1 b0 b1
    generalize ((w.alloc (.cells #[.int .i64 x.a, .int .i64 x.b, .int .i64 x.c, .int .i64 x.d] 42)).alloc (.cells #[.int .i64 y.a, .int .i64 y.b, .int .i64 y.c, .int .i64 y.d] 42)).alloc (.cells #[.int .i64 0, .int .i64 0, .int .i64 0, .int .i64 0] 42) = w0 at *
    refine (mulFrac_any x.a x.b y.a y.b _ HX.out.f HY.out.f).mono ?_
    rintro e w1 ⟨he, b1⟩
    rw [HM.out] at he
    obtain rfl : e = .returned (.tuple #[.agg #[.int .i64 0, .int .i64 0], .bool false]) := he
    replace Xa := Lib.hid (bxb Xa.out b1)
    replace Xb := Lib.hid (bxb Xb.out b1)
    replace Xr := Lib.hid (bxb Xr.out b1)
    replace HB := Lib.hid (HB.out.trans (b1.mono HB.out.size))
    clear b1
    have b1 := below_new w1 (.cells #[.int .i64 0, .int .i64 0] 40)
    have XM := Lib.hid (box_new w1 #[.int .i64 0, .int .i64 0] 40)
    replace Xa := Lib.hid (bxb Xa.out b1)
    replace Xb := Lib.hid (bxb Xb.out b1)
    replace Xr := Lib.hid (bxb Xr.out b1)
    replace HB := Lib.hid (HB.out.trans (b1.mono HB.out.size))
    clear b1
    have lr := lt_of_block Xr.out
    have r0 := bxc Xr.out 0 _ rfl
    have r1 := bxc Xr.out 1 _ rfl
    have r2 := bxc Xr.out 2 _ rfl
    have r3 := bxc Xr.out 3 _ rfl
    have f0 := bxf Xr.out 0
    have f1 := bxf Xr.out 1
    have f2 := bxf Xr.out 2
    have f3 := bxf Xr.out 3
    have y4 := store_four Xr.out (.int .i64 0) (.int .i64 0) (.int .i64 0) (.int .i64 0)
    have e0 := bxc y4 0 _ rfl
    have e1 := bxc y4 1 _ rfl
    have e2 := bxc y4 2 _ rfl
    have e3 := bxc y4 3 _ rfl
    have HE := HB.out
    clear y4 HB HX HY Xa Xb Xr
    go_wp2
    exact bodyPost_ret (v := .tuple #[.agg #[.int .i64 0, .int .i64 0, .int .i64 0, .int .i64 0], .bool false]) (by simp [results, Tryz.results127, go_sem, e0, e1, e2, e3]) rfl ⟨rfl, below_four HE (by omega)⟩
  | some r =>
    obtain ⟨mp, mq⟩ := r
    have HM := Lib.hid hm
    cases ha : addO x.c x.d y.c y.d with
    | none =>
      have hr := hR.symm.trans (twoO_2 ha)
      subst hr
      have HA := Lib.hid ha
      clear ha hm hR
      go_enter Tryz.func127, Tryz.ntmps127
      have la := lt_of_block Xa.out
      have lb := lt_of_block Xb.out
      have a0 := bxc Xa.out 0 _ rfl
      have a1 := bxc Xa.out 1 _ rfl
      have b0 := bxc Xb.out 0 _ rfl
      have b1 := bxc Xb.out 1 _ rfl
      go_wp2_with fail
      clear la lb a0 a1 b0 b1
      generalize ((w.alloc (.cells #[.int .i64 x.a, .int .i64 x.b, .int .i64 x.c, .int .i64 x.d] 42)).alloc (.cells #[.int .i64 y.a, .int .i64 y.b, .int .i64 y.c, .int .i64 y.d] 42)).alloc (.cells #[.int .i64 0, .int .i64 0, .int .i64 0, .int .i64 0] 42) = w0 at *
      refine (mulFrac_any x.a x.b y.a y.b _ HX.out.f HY.out.f).mono ?_
      rintro e w1 ⟨he, b1⟩
      rw [HM.out] at he
      obtain rfl : e = .returned (.tuple #[.agg #[.int .i64 mp, .int .i64 mq], .bool true]) := he
      replace Xa := Lib.hid (bxb Xa.out b1)
      replace Xb := Lib.hid (bxb Xb.out b1)
      replace Xr := Lib.hid (bxb Xr.out b1)
      replace HB := Lib.hid (HB.out.trans (b1.mono HB.out.size))
      clear b1
      have b1 := below_new w1 (.cells #[.int .i64 mp, .int .i64 mq] 40)
      have XM := Lib.hid (box_new w1 #[.int .i64 mp, .int .i64 mq] 40)
      replace Xa := Lib.hid (bxb Xa.out b1)
      replace Xb := Lib.hid (bxb Xb.out b1)
      replace Xr := Lib.hid (bxb Xr.out b1)
      replace HB := Lib.hid (HB.out.trans (b1.mono HB.out.size))
      clear b1
      have la := lt_of_block Xa.out
      have lb := lt_of_block Xb.out
      have a2 := bxc Xa.out 2 _ rfl
      have a3 := bxc Xa.out 3 _ rfl
      have b2 := bxc Xb.out 2 _ rfl
      have b3 := bxc Xb.out 3 _ rfl
      go_wp2_with fail
      clear la lb a2 a3 b2 b3
      generalize w1.alloc (.cells #[.int .i64 mp, .int .i64 mq] 40) = w2 at *
      refine (addFrac_any x.c x.d y.c y.d _ HX.out.g HY.out.g).mono ?_
      rintro e w3 ⟨he, b1⟩
      rw [HA.out] at he
      obtain rfl : e = .returned (.tuple #[.agg #[.int .i64 0, .int .i64 0], .bool false]) := he
      replace Xa := Lib.hid (bxb Xa.out b1)
      replace Xb := Lib.hid (bxb Xb.out b1)
      replace Xr := Lib.hid (bxb Xr.out b1)
      replace HB := Lib.hid (HB.out.trans (b1.mono HB.out.size))
      replace XM := Lib.hid (bxb XM.out b1)
      clear b1
      have b1 := below_new w3 (.cells #[.int .i64 0, .int .i64 0] 40)
      have XN := Lib.hid (box_new w3 #[.int .i64 0, .int .i64 0] 40)
      replace Xa := Lib.hid (bxb Xa.out b1)
      replace Xb := Lib.hid (bxb Xb.out b1)
      replace Xr := Lib.hid (bxb Xr.out b1)
      replace HB := Lib.hid (HB.out.trans (b1.mono HB.out.size))
      replace XM := Lib.hid (bxb XM.out b1)
      clear b1
      have lr := lt_of_block Xr.out
      have r0 := bxc Xr.out 0 _ rfl
      have r1 := bxc Xr.out 1 _ rfl
      have r2 := bxc Xr.out 2 _ rfl
      have r3 := bxc Xr.out 3 _ rfl
      have f0 := bxf Xr.out 0
      have f1 := bxf Xr.out 1
      have f2 := bxf Xr.out 2
      have f3 := bxf Xr.out 3
      have y4 := store_four Xr.out (.int .i64 0) (.int .i64 0) (.int .i64 0) (.int .i64 0)
      have e0 := bxc y4 0 _ rfl
      have e1 := bxc y4 1 _ rfl
      have e2 := bxc y4 2 _ rfl
      have e3 := bxc y4 3 _ rfl
      have HE := HB.out
      clear y4 HB HX HY Xa Xb Xr
      go_wp2
      exact bodyPost_ret (v := .tuple #[.agg #[.int .i64 0, .int .i64 0, .int .i64 0, .int .i64 0], .bool false]) (by simp [results, Tryz.results127, go_sem, e0, e1, e2, e3]) rfl ⟨rfl, below_four HE (by omega)⟩
    | some s =>
      obtain ⟨ap, aq⟩ := s
      have hr := hR.symm.trans (twoO_3 hm ha)
      subst hr
      have HA := Lib.hid ha
      clear ha hm hR
      go_enter Tryz.func127, Tryz.ntmps127
      have la := lt_of_block Xa.out
      have lb := lt_of_block Xb.out
      have a0 := bxc Xa.out 0 _ rfl
      have a1 := bxc Xa.out 1 _ rfl
      have b0 := bxc Xb.out 0 _ rfl
      have b1 := bxc Xb.out 1 _ rfl
      go_wp2_with fail
      clear la lb a0 a1 b0 b1
      generalize ((w.alloc (.cells #[.int .i64 x.a, .int .i64 x.b, .int .i64 x.c, .int .i64 x.d] 42)).alloc (.cells #[.int .i64 y.a, .int .i64 y.b, .int .i64 y.c, .int .i64 y.d] 42)).alloc (.cells #[.int .i64 0, .int .i64 0, .int .i64 0, .int .i64 0] 42) = w0 at *
      refine (mulFrac_any x.a x.b y.a y.b _ HX.out.f HY.out.f).mono ?_
      rintro e w1 ⟨he, b1⟩
      rw [HM.out] at he
      obtain rfl : e = .returned (.tuple #[.agg #[.int .i64 mp, .int .i64 mq], .bool true]) := he
      replace Xa := Lib.hid (bxb Xa.out b1)
      replace Xb := Lib.hid (bxb Xb.out b1)
      replace Xr := Lib.hid (bxb Xr.out b1)
      replace HB := Lib.hid (HB.out.trans (b1.mono HB.out.size))
      clear b1
      have b1 := below_new w1 (.cells #[.int .i64 mp, .int .i64 mq] 40)
      have XM := Lib.hid (box_new w1 #[.int .i64 mp, .int .i64 mq] 40)
      replace Xa := Lib.hid (bxb Xa.out b1)
      replace Xb := Lib.hid (bxb Xb.out b1)
      replace Xr := Lib.hid (bxb Xr.out b1)
      replace HB := Lib.hid (HB.out.trans (b1.mono HB.out.size))
      clear b1
      have la := lt_of_block Xa.out
      have lb := lt_of_block Xb.out
      have a2 := bxc Xa.out 2 _ rfl
      have a3 := bxc Xa.out 3 _ rfl
      have b2 := bxc Xb.out 2 _ rfl
      have b3 := bxc Xb.out 3 _ rfl
      go_wp2_with fail
      clear la lb a2 a3 b2 b3
      generalize w1.alloc (.cells #[.int .i64 mp, .int .i64 mq] 40) = w2 at *
      refine (addFrac_any x.c x.d y.c y.d _ HX.out.g HY.out.g).mono ?_
      rintro e w3 ⟨he, b1⟩
      rw [HA.out] at he
      obtain rfl : e = .returned (.tuple #[.agg #[.int .i64 ap, .int .i64 aq], .bool true]) := he
      replace Xa := Lib.hid (bxb Xa.out b1)
      replace Xb := Lib.hid (bxb Xb.out b1)
      replace Xr := Lib.hid (bxb Xr.out b1)
      replace HB := Lib.hid (HB.out.trans (b1.mono HB.out.size))
      replace XM := Lib.hid (bxb XM.out b1)
      clear b1
      have b1 := below_new w3 (.cells #[.int .i64 ap, .int .i64 aq] 40)
      have XN := Lib.hid (box_new w3 #[.int .i64 ap, .int .i64 aq] 40)
      replace Xa := Lib.hid (bxb Xa.out b1)
      replace Xb := Lib.hid (bxb Xb.out b1)
      replace Xr := Lib.hid (bxb Xr.out b1)
      replace HB := Lib.hid (HB.out.trans (b1.mono HB.out.size))
      replace XM := Lib.hid (bxb XM.out b1)
      clear b1
      have lr := lt_of_block Xr.out
      have r0 := bxc Xr.out 0 _ rfl
      have r1 := bxc Xr.out 1 _ rfl
      have r2 := bxc Xr.out 2 _ rfl
      have r3 := bxc Xr.out 3 _ rfl
      have f0 := bxf Xr.out 0
      have f1 := bxf Xr.out 1
      have f2 := bxf Xr.out 2
      have f3 := bxf Xr.out 3
      have lm := lt_of_block XM.out
      have ln := lt_of_block XN.out
      have m0 := bxc XM.out 0 _ rfl
      have m1 := bxc XM.out 1 _ rfl
      have n0 := bxc XN.out 0 _ rfl
      have n1 := bxc XN.out 1 _ rfl
      have y4 := store_four Xr.out (.int .i64 mp) (.int .i64 mq) (.int .i64 ap) (.int .i64 aq)
      have e0 := bxc y4 0 _ rfl
      have e1 := bxc y4 1 _ rfl
      have e2 := bxc y4 2 _ rfl
      have e3 := bxc y4 3 _ rfl
      have HE := HB.out
      clear y4 HB HX HY Xa Xb Xr XM XN
      go_wp2
      exact bodyPost_ret (v := .tuple #[.agg #[.int .i64 mp, .int .i64 mq, .int .i64 ap, .int .i64 aq], .bool true]) (by simp [results, Tryz.results127, go_sem, e0, e1, e2, e3]) rfl ⟨rfl, below_four HE (by omega)⟩

set_option maxRecDepth 100000 in
set_option maxHeartbeats 2000000 in
theorem pTwo_any (x y : LosD) (R : Option LosD) (w : World) (hx : LosOk x) (hy : LosOk y) (hR : twoO x y = R) : Calls Tryz.prog 125 #[.agg #[.int .i64 x.a, .int .i64 x.b, .int .i64 x.c, .int .i64 x.d], .agg #[.int .i64 y.a, .int .i64 y.b, .int .i64 y.c, .int .i64 y.d]] w fun e w' => e = losE R ∧ Below w.heap.size w w' := by
  obtain ⟨b0, xa, xb, xr⟩ := box_3f w #[.int .i64 x.a, .int .i64 x.b, .int .i64 x.c, .int .i64 x.d] #[.int .i64 y.a, .int .i64 y.b, .int .i64 y.c, .int .i64 y.d] #[.int .i64 0, .int .i64 0, .int .i64 0, .int .i64 0] 42 42 42
  have Xa := Lib.hid xa
  have Xb := Lib.hid xb
  have Xr := Lib.hid xr
  have HB := Lib.hid b0
  have HX := Lib.hid hx
  have HY := Lib.hid hy
  clear xa xb xr b0 hx hy
  cases hm : mulO x.a x.b y.a y.b with
  | none =>
    have hr := hR.symm.trans (twoO_1 hm)
    subst hr
    have HM := Lib.hid hm
    clear hm hR
    cases ha : addO x.c x.d y.c y.d with
    | none =>
      have HA := Lib.hid ha
      clear ha
      go_enter Tryz.func125, Tryz.ntmps125
      have la := lt_of_block Xa.out
      have lb := lt_of_block Xb.out
      have a0 := bxc Xa.out 0 _ rfl
      have a1 := bxc Xa.out 1 _ rfl
      have b0 := bxc Xb.out 0 _ rfl
      have b1 := bxc Xb.out 1 _ rfl
      go_wp2_with fail
      clear la lb a0 a1 b0 b1
      generalize ((w.alloc (.cells #[.int .i64 x.a, .int .i64 x.b, .int .i64 x.c, .int .i64 x.d] 42)).alloc (.cells #[.int .i64 y.a, .int .i64 y.b, .int .i64 y.c, .int .i64 y.d] 42)).alloc (.cells #[.int .i64 0, .int .i64 0, .int .i64 0, .int .i64 0] 42) = w0 at *
      refine (fMul_any x.a x.b y.a y.b _ (fracB_sm HX.out.f).1 (fracB_sm HX.out.f).2.1 (fracB_sm HY.out.f).1 (fracB_sm HY.out.f).2.1).mono ?_
      rintro e w1 ⟨he, b1⟩
      rw [show redO (x.a * y.a) (x.b * y.b) = _ from HM.out] at he
      obtain rfl : e = .returned (.tuple #[.agg #[.int .i64 0, .int .i64 0], .bool false]) := he
      replace Xa := Lib.hid (bxb Xa.out b1)
      replace Xb := Lib.hid (bxb Xb.out b1)
      replace Xr := Lib.hid (bxb Xr.out b1)
      replace HB := Lib.hid (HB.out.trans (b1.mono HB.out.size))
      clear b1
      have b1 := below_new w1 (.cells #[.int .i64 0, .int .i64 0] 40)
      have XM := Lib.hid (box_new w1 #[.int .i64 0, .int .i64 0] 40)
      replace Xa := Lib.hid (bxb Xa.out b1)
      replace Xb := Lib.hid (bxb Xb.out b1)
      replace Xr := Lib.hid (bxb Xr.out b1)
      replace HB := Lib.hid (HB.out.trans (b1.mono HB.out.size))
      clear b1
      have la := lt_of_block Xa.out
      have lb := lt_of_block Xb.out
      have a2 := bxc Xa.out 2 _ rfl
      have a3 := bxc Xa.out 3 _ rfl
      have b2 := bxc Xb.out 2 _ rfl
      have b3 := bxc Xb.out 3 _ rfl
      go_wp2_with fail
      clear la lb a2 a3 b2 b3
      generalize w1.alloc (.cells #[.int .i64 0, .int .i64 0] 40) = w2 at *
      refine (fAdd_any x.c x.d y.c y.d _ (fracB_sm HX.out.g).1 (fracB_sm HX.out.g).2.1 (fracB_sm HY.out.g).1 (fracB_sm HY.out.g).2.1).mono ?_
      rintro e w3 ⟨he, b1⟩
      rw [show redO (x.c * y.d + y.c * x.d) (x.d * y.d) = _ from HA.out] at he
      obtain rfl : e = .returned (.tuple #[.agg #[.int .i64 0, .int .i64 0], .bool false]) := he
      replace Xa := Lib.hid (bxb Xa.out b1)
      replace Xb := Lib.hid (bxb Xb.out b1)
      replace Xr := Lib.hid (bxb Xr.out b1)
      replace HB := Lib.hid (HB.out.trans (b1.mono HB.out.size))
      replace XM := Lib.hid (bxb XM.out b1)
      clear b1
      have b1 := below_new w3 (.cells #[.int .i64 0, .int .i64 0] 40)
      have XN := Lib.hid (box_new w3 #[.int .i64 0, .int .i64 0] 40)
      replace Xa := Lib.hid (bxb Xa.out b1)
      replace Xb := Lib.hid (bxb Xb.out b1)
      replace Xr := Lib.hid (bxb Xr.out b1)
      replace HB := Lib.hid (HB.out.trans (b1.mono HB.out.size))
      replace XM := Lib.hid (bxb XM.out b1)
      clear b1
      have lr := lt_of_block Xr.out
      have r0 := bxc Xr.out 0 _ rfl
      have r1 := bxc Xr.out 1 _ rfl
      have r2 := bxc Xr.out 2 _ rfl
      have r3 := bxc Xr.out 3 _ rfl
      have f0 := bxf Xr.out 0
      have f1 := bxf Xr.out 1
      have f2 := bxf Xr.out 2
      have f3 := bxf Xr.out 3
      have y4 := store_four Xr.out (.int .i64 0) (.int .i64 0) (.int .i64 0) (.int .i64 0)
      have e0 := bxc y4 0 _ rfl
      have e1 := bxc y4 1 _ rfl
      have e2 := bxc y4 2 _ rfl
      have e3 := bxc y4 3 _ rfl
      have HE := HB.out
      clear y4 HB HX HY Xa Xb Xr
      go_wp2
      exact bodyPost_ret (v := .tuple #[.agg #[.int .i64 0, .int .i64 0, .int .i64 0, .int .i64 0], .bool false]) (by simp [results, Tryz.results125, go_sem, e0, e1, e2, e3]) rfl ⟨rfl, below_four HE (by omega)⟩
    | some s =>
      obtain ⟨ap, aq⟩ := s
      have HA := Lib.hid ha
      clear ha
      go_enter Tryz.func125, Tryz.ntmps125
      have la := lt_of_block Xa.out
      have lb := lt_of_block Xb.out
      have a0 := bxc Xa.out 0 _ rfl
      have a1 := bxc Xa.out 1 _ rfl
      have b0 := bxc Xb.out 0 _ rfl
      have b1 := bxc Xb.out 1 _ rfl
      go_wp2_with fail
      clear la lb a0 a1 b0 b1
      generalize ((w.alloc (.cells #[.int .i64 x.a, .int .i64 x.b, .int .i64 x.c, .int .i64 x.d] 42)).alloc (.cells #[.int .i64 y.a, .int .i64 y.b, .int .i64 y.c, .int .i64 y.d] 42)).alloc (.cells #[.int .i64 0, .int .i64 0, .int .i64 0, .int .i64 0] 42) = w0 at *
      refine (fMul_any x.a x.b y.a y.b _ (fracB_sm HX.out.f).1 (fracB_sm HX.out.f).2.1 (fracB_sm HY.out.f).1 (fracB_sm HY.out.f).2.1).mono ?_
      rintro e w1 ⟨he, b1⟩
      rw [show redO (x.a * y.a) (x.b * y.b) = _ from HM.out] at he
      obtain rfl : e = .returned (.tuple #[.agg #[.int .i64 0, .int .i64 0], .bool false]) := he
      replace Xa := Lib.hid (bxb Xa.out b1)
      replace Xb := Lib.hid (bxb Xb.out b1)
      replace Xr := Lib.hid (bxb Xr.out b1)
      replace HB := Lib.hid (HB.out.trans (b1.mono HB.out.size))
      clear b1
      have b1 := below_new w1 (.cells #[.int .i64 0, .int .i64 0] 40)
      have XM := Lib.hid (box_new w1 #[.int .i64 0, .int .i64 0] 40)
      replace Xa := Lib.hid (bxb Xa.out b1)
      replace Xb := Lib.hid (bxb Xb.out b1)
      replace Xr := Lib.hid (bxb Xr.out b1)
      replace HB := Lib.hid (HB.out.trans (b1.mono HB.out.size))
      clear b1
      have la := lt_of_block Xa.out
      have lb := lt_of_block Xb.out
      have a2 := bxc Xa.out 2 _ rfl
      have a3 := bxc Xa.out 3 _ rfl
      have b2 := bxc Xb.out 2 _ rfl
      have b3 := bxc Xb.out 3 _ rfl
      go_wp2_with fail
      clear la lb a2 a3 b2 b3
      generalize w1.alloc (.cells #[.int .i64 0, .int .i64 0] 40) = w2 at *
      refine (fAdd_any x.c x.d y.c y.d _ (fracB_sm HX.out.g).1 (fracB_sm HX.out.g).2.1 (fracB_sm HY.out.g).1 (fracB_sm HY.out.g).2.1).mono ?_
      rintro e w3 ⟨he, b1⟩
      rw [show redO (x.c * y.d + y.c * x.d) (x.d * y.d) = _ from HA.out] at he
      obtain rfl : e = .returned (.tuple #[.agg #[.int .i64 ap, .int .i64 aq], .bool true]) := he
      replace Xa := Lib.hid (bxb Xa.out b1)
      replace Xb := Lib.hid (bxb Xb.out b1)
      replace Xr := Lib.hid (bxb Xr.out b1)
      replace HB := Lib.hid (HB.out.trans (b1.mono HB.out.size))
      replace XM := Lib.hid (bxb XM.out b1)
      clear b1
      have b1 := below_new w3 (.cells #[.int .i64 ap, .int .i64 aq] 40)
      have XN := Lib.hid (box_new w3 #[.int .i64 ap, .int .i64 aq] 40)
      replace Xa := Lib.hid (bxb Xa.out b1)
      replace Xb := Lib.hid (bxb Xb.out b1)
      replace Xr := Lib.hid (bxb Xr.out b1)
      replace HB := Lib.hid (HB.out.trans (b1.mono HB.out.size))
      replace XM := Lib.hid (bxb XM.out b1)
      clear b1
      have lr := lt_of_block Xr.out
      have r0 := bxc Xr.out 0 _ rfl
      have r1 := bxc Xr.out 1 _ rfl
      have r2 := bxc Xr.out 2 _ rfl
      have r3 := bxc Xr.out 3 _ rfl
      have f0 := bxf Xr.out 0
      have f1 := bxf Xr.out 1
      have f2 := bxf Xr.out 2
      have f3 := bxf Xr.out 3
      have y4 := store_four Xr.out (.int .i64 0) (.int .i64 0) (.int .i64 0) (.int .i64 0)
      have e0 := bxc y4 0 _ rfl
      have e1 := bxc y4 1 _ rfl
      have e2 := bxc y4 2 _ rfl
      have e3 := bxc y4 3 _ rfl
      have HE := HB.out
      clear y4 HB HX HY Xa Xb Xr
      go_wp2
      exact bodyPost_ret (v := .tuple #[.agg #[.int .i64 0, .int .i64 0, .int .i64 0, .int .i64 0], .bool false]) (by simp [results, Tryz.results125, go_sem, e0, e1, e2, e3]) rfl ⟨rfl, below_four HE (by omega)⟩
  | some r =>
    obtain ⟨mp, mq⟩ := r
    have HM := Lib.hid hm
    cases ha : addO x.c x.d y.c y.d with
    | none =>
      have hr := hR.symm.trans (twoO_2 ha)
      subst hr
      have HA := Lib.hid ha
      clear ha hm hR
      go_enter Tryz.func125, Tryz.ntmps125
      have la := lt_of_block Xa.out
      have lb := lt_of_block Xb.out
      have a0 := bxc Xa.out 0 _ rfl
      have a1 := bxc Xa.out 1 _ rfl
      have b0 := bxc Xb.out 0 _ rfl
      have b1 := bxc Xb.out 1 _ rfl
      go_wp2_with fail
      clear la lb a0 a1 b0 b1
      generalize ((w.alloc (.cells #[.int .i64 x.a, .int .i64 x.b, .int .i64 x.c, .int .i64 x.d] 42)).alloc (.cells #[.int .i64 y.a, .int .i64 y.b, .int .i64 y.c, .int .i64 y.d] 42)).alloc (.cells #[.int .i64 0, .int .i64 0, .int .i64 0, .int .i64 0] 42) = w0 at *
      refine (fMul_any x.a x.b y.a y.b _ (fracB_sm HX.out.f).1 (fracB_sm HX.out.f).2.1 (fracB_sm HY.out.f).1 (fracB_sm HY.out.f).2.1).mono ?_
      rintro e w1 ⟨he, b1⟩
      rw [show redO (x.a * y.a) (x.b * y.b) = _ from HM.out] at he
      obtain rfl : e = .returned (.tuple #[.agg #[.int .i64 mp, .int .i64 mq], .bool true]) := he
      replace Xa := Lib.hid (bxb Xa.out b1)
      replace Xb := Lib.hid (bxb Xb.out b1)
      replace Xr := Lib.hid (bxb Xr.out b1)
      replace HB := Lib.hid (HB.out.trans (b1.mono HB.out.size))
      clear b1
      have b1 := below_new w1 (.cells #[.int .i64 mp, .int .i64 mq] 40)
      have XM := Lib.hid (box_new w1 #[.int .i64 mp, .int .i64 mq] 40)
      replace Xa := Lib.hid (bxb Xa.out b1)
      replace Xb := Lib.hid (bxb Xb.out b1)
      replace Xr := Lib.hid (bxb Xr.out b1)
      replace HB := Lib.hid (HB.out.trans (b1.mono HB.out.size))
      clear b1
      have la := lt_of_block Xa.out
      have lb := lt_of_block Xb.out
      have a2 := bxc Xa.out 2 _ rfl
      have a3 := bxc Xa.out 3 _ rfl
      have b2 := bxc Xb.out 2 _ rfl
      have b3 := bxc Xb.out 3 _ rfl
      go_wp2_with fail
      clear la lb a2 a3 b2 b3
      generalize w1.alloc (.cells #[.int .i64 mp, .int .i64 mq] 40) = w2 at *
      refine (fAdd_any x.c x.d y.c y.d _ (fracB_sm HX.out.g).1 (fracB_sm HX.out.g).2.1 (fracB_sm HY.out.g).1 (fracB_sm HY.out.g).2.1).mono ?_
      rintro e w3 ⟨he, b1⟩
      rw [show redO (x.c * y.d + y.c * x.d) (x.d * y.d) = _ from HA.out] at he
      obtain rfl : e = .returned (.tuple #[.agg #[.int .i64 0, .int .i64 0], .bool false]) := he
      replace Xa := Lib.hid (bxb Xa.out b1)
      replace Xb := Lib.hid (bxb Xb.out b1)
      replace Xr := Lib.hid (bxb Xr.out b1)
      replace HB := Lib.hid (HB.out.trans (b1.mono HB.out.size))
      replace XM := Lib.hid (bxb XM.out b1)
      clear b1
      have b1 := below_new w3 (.cells #[.int .i64 0, .int .i64 0] 40)
      have XN := Lib.hid (box_new w3 #[.int .i64 0, .int .i64 0] 40)
      replace Xa := Lib.hid (bxb Xa.out b1)
      replace Xb := Lib.hid (bxb Xb.out b1)
      replace Xr := Lib.hid (bxb Xr.out b1)
      replace HB := Lib.hid (HB.out.trans (b1.mono HB.out.size))
      replace XM := Lib.hid (bxb XM.out b1)
      clear b1
      have lr := lt_of_block Xr.out
      have r0 := bxc Xr.out 0 _ rfl
      have r1 := bxc Xr.out 1 _ rfl
      have r2 := bxc Xr.out 2 _ rfl
      have r3 := bxc Xr.out 3 _ rfl
      have f0 := bxf Xr.out 0
      have f1 := bxf Xr.out 1
      have f2 := bxf Xr.out 2
      have f3 := bxf Xr.out 3
      have y4 := store_four Xr.out (.int .i64 0) (.int .i64 0) (.int .i64 0) (.int .i64 0)
      have e0 := bxc y4 0 _ rfl
      have e1 := bxc y4 1 _ rfl
      have e2 := bxc y4 2 _ rfl
      have e3 := bxc y4 3 _ rfl
      have HE := HB.out
      clear y4 HB HX HY Xa Xb Xr
      go_wp2
      exact bodyPost_ret (v := .tuple #[.agg #[.int .i64 0, .int .i64 0, .int .i64 0, .int .i64 0], .bool false]) (by simp [results, Tryz.results125, go_sem, e0, e1, e2, e3]) rfl ⟨rfl, below_four HE (by omega)⟩
    | some s =>
      obtain ⟨ap, aq⟩ := s
      have hr := hR.symm.trans (twoO_3 hm ha)
      subst hr
      have HA := Lib.hid ha
      clear ha hm hR
      go_enter Tryz.func125, Tryz.ntmps125
      have la := lt_of_block Xa.out
      have lb := lt_of_block Xb.out
      have a0 := bxc Xa.out 0 _ rfl
      have a1 := bxc Xa.out 1 _ rfl
      have b0 := bxc Xb.out 0 _ rfl
      have b1 := bxc Xb.out 1 _ rfl
      go_wp2_with fail
      clear la lb a0 a1 b0 b1
      generalize ((w.alloc (.cells #[.int .i64 x.a, .int .i64 x.b, .int .i64 x.c, .int .i64 x.d] 42)).alloc (.cells #[.int .i64 y.a, .int .i64 y.b, .int .i64 y.c, .int .i64 y.d] 42)).alloc (.cells #[.int .i64 0, .int .i64 0, .int .i64 0, .int .i64 0] 42) = w0 at *
      refine (fMul_any x.a x.b y.a y.b _ (fracB_sm HX.out.f).1 (fracB_sm HX.out.f).2.1 (fracB_sm HY.out.f).1 (fracB_sm HY.out.f).2.1).mono ?_
      rintro e w1 ⟨he, b1⟩
      rw [show redO (x.a * y.a) (x.b * y.b) = _ from HM.out] at he
      obtain rfl : e = .returned (.tuple #[.agg #[.int .i64 mp, .int .i64 mq], .bool true]) := he
      replace Xa := Lib.hid (bxb Xa.out b1)
      replace Xb := Lib.hid (bxb Xb.out b1)
      replace Xr := Lib.hid (bxb Xr.out b1)
      replace HB := Lib.hid (HB.out.trans (b1.mono HB.out.size))
      clear b1
      have b1 := below_new w1 (.cells #[.int .i64 mp, .int .i64 mq] 40)
      have XM := Lib.hid (box_new w1 #[.int .i64 mp, .int .i64 mq] 40)
      replace Xa := Lib.hid (bxb Xa.out b1)
      replace Xb := Lib.hid (bxb Xb.out b1)
      replace Xr := Lib.hid (bxb Xr.out b1)
      replace HB := Lib.hid (HB.out.trans (b1.mono HB.out.size))
      clear b1
      have la := lt_of_block Xa.out
      have lb := lt_of_block Xb.out
      have a2 := bxc Xa.out 2 _ rfl
      have a3 := bxc Xa.out 3 _ rfl
      have b2 := bxc Xb.out 2 _ rfl
      have b3 := bxc Xb.out 3 _ rfl
      go_wp2_with fail
      clear la lb a2 a3 b2 b3
      generalize w1.alloc (.cells #[.int .i64 mp, .int .i64 mq] 40) = w2 at *
      refine (fAdd_any x.c x.d y.c y.d _ (fracB_sm HX.out.g).1 (fracB_sm HX.out.g).2.1 (fracB_sm HY.out.g).1 (fracB_sm HY.out.g).2.1).mono ?_
      rintro e w3 ⟨he, b1⟩
      rw [show redO (x.c * y.d + y.c * x.d) (x.d * y.d) = _ from HA.out] at he
      obtain rfl : e = .returned (.tuple #[.agg #[.int .i64 ap, .int .i64 aq], .bool true]) := he
      replace Xa := Lib.hid (bxb Xa.out b1)
      replace Xb := Lib.hid (bxb Xb.out b1)
      replace Xr := Lib.hid (bxb Xr.out b1)
      replace HB := Lib.hid (HB.out.trans (b1.mono HB.out.size))
      replace XM := Lib.hid (bxb XM.out b1)
      clear b1
      have b1 := below_new w3 (.cells #[.int .i64 ap, .int .i64 aq] 40)
      have XN := Lib.hid (box_new w3 #[.int .i64 ap, .int .i64 aq] 40)
      replace Xa := Lib.hid (bxb Xa.out b1)
      replace Xb := Lib.hid (bxb Xb.out b1)
      replace Xr := Lib.hid (bxb Xr.out b1)
      replace HB := Lib.hid (HB.out.trans (b1.mono HB.out.size))
      replace XM := Lib.hid (bxb XM.out b1)
      clear b1
      have lr := lt_of_block Xr.out
      have r0 := bxc Xr.out 0 _ rfl
      have r1 := bxc Xr.out 1 _ rfl
      have r2 := bxc Xr.out 2 _ rfl
      have r3 := bxc Xr.out 3 _ rfl
      have f0 := bxf Xr.out 0
      have f1 := bxf Xr.out 1
      have f2 := bxf Xr.out 2
      have f3 := bxf Xr.out 3
      have lm := lt_of_block XM.out
      have ln := lt_of_block XN.out
      have m0 := bxc XM.out 0 _ rfl
      have m1 := bxc XM.out 1 _ rfl
      have n0 := bxc XN.out 0 _ rfl
      have n1 := bxc XN.out 1 _ rfl
      have y4 := store_four Xr.out (.int .i64 mp) (.int .i64 mq) (.int .i64 ap) (.int .i64 aq)
      have e0 := bxc y4 0 _ rfl
      have e1 := bxc y4 1 _ rfl
      have e2 := bxc y4 2 _ rfl
      have e3 := bxc y4 3 _ rfl
      have HE := HB.out
      clear y4 HB HX HY Xa Xb Xr XM XN
      go_wp2
      exact bodyPost_ret (v := .tuple #[.agg #[.int .i64 mp, .int .i64 mq, .int .i64 ap, .int .i64 aq], .bool true]) (by simp [results, Tryz.results125, go_sem, e0, e1, e2, e3]) rfl ⟨rfl, below_four HE (by omega)⟩
end

section
open Go.RowKit

theorem set_four {w : World} {g h : Nat} {o : Obj} {a b c d : Value} (hh : w.heap[h]? = some o) (hne : h ≠ g) : ((((w.setCell ⟨g, 0, none⟩ a).setCell ⟨g, 1, none⟩ b).setCell ⟨g, 2, none⟩ c).setCell ⟨g, 3, none⟩ d).heap[h]? = some o := by
  rw [Below.heap_setCell _ ⟨g, 3, none⟩ d h hne, Below.heap_setCell _ ⟨g, 2, none⟩ c h hne, Below.heap_setCell _ ⟨g, 1, none⟩ b h hne, Below.heap_setCell _ ⟨g, 0, none⟩ a h hne]; exact hh
theorem costO_no {x y : LosD} {k m : Nat} (h : costO x k = some y) (hk : k < m) (h2 : twoO y x = none) : costO x m = none := costO_stop (k := k + 1) (by rw [costO_step h, h2]) (by omega)
theorem costO_up {x y z : LosD} {k : Nat} (h : costO x k = some y) (h2 : twoO y x = some z) : costO x (k + 1) = some z := by rw [costO_step h, h2]

set_option maxRecDepth 100000 in
set_option maxHeartbeats 2000000 in
theorem costOf_any (x : LosD) (N : Nat) (R : Option LosD) (w : World) (hN : N ≤ 1099511627777) (hx : LosOk x) (hR : costO x N = R) : Calls Tryz.prog 70 #[.agg #[.int .i64 x.a, .int .i64 x.b, .int .i64 x.c, .int .i64 x.d], .int .i64 N] w fun e w' => e = losE R ∧ Below w.heap.size w w' := by
  obtain ⟨b0, xa, xr⟩ := box_two w #[.int .i64 x.a, .int .i64 x.b, .int .i64 x.c, .int .i64 x.d] #[.int .i64 0, .int .i64 0, .int .i64 0, .int .i64 0] 42 42
  have Xx := Lib.hid xa
  have Xr := Lib.hid xr
  have HB := Lib.hid b0
  have HX := Lib.hid hx
  have HR := Lib.hid hR
  clear xa xr b0 hx hR
  go_enter Tryz.func70, Tryz.ntmps70
  go_wp2_with fail
  generalize (w.alloc (.cells #[.int .i64 x.a, .int .i64 x.b, .int .i64 x.c, .int .i64 x.d] 42)).alloc (.cells #[.int .i64 0, .int .i64 0, .int .i64 0, .int .i64 0] 42) = w0 at *
  refine (NoLoss_any _).mono ?_
  rintro e w1 ⟨rfl, b1⟩
  replace Xx := Lib.hid (bxb Xx.out b1)
  replace Xr := Lib.hid (bxb Xr.out b1)
  replace HB := Lib.hid (HB.out.trans (b1.mono HB.out.size))
  clear b1
  have hgs := lt_of_block Xr.out
  have bn := below_new w1 (.cells #[.int .i64 1, .int .i64 1, .int .i64 0, .int .i64 1] 42)
  have Xs := Lib.hid (box_new w1 #[.int .i64 1, .int .i64 1, .int .i64 0, .int .i64 1] 42)
  replace Xx := Lib.hid (bxb Xx.out bn)
  replace Xr := Lib.hid (bxb Xr.out bn)
  replace HB := Lib.hid (HB.out.trans (bn.mono HB.out.size))
  clear bn
  go_wp2
  generalize w1.alloc (.cells #[.int .i64 1, .int .i64 1, .int .i64 0, .int .i64 1] 42) = w2 at *
  generalize w1.heap.size = gs at *
  go_loopw [10] (fun i wr => ∃ (k : Nat) (y : LosD), k ≤ N ∧ i = .int .i64 k ∧ Hid (costO x k = some y) ∧ Hid (wr.heap[gs]? = some (.cells #[.int .i64 y.a, .int .i64 y.b, .int .i64 y.c, .int .i64 y.d] 42 (0, 0))) ∧ Hid (wr.heap[w.heap.size]? = some (.cells #[.int .i64 x.a, .int .i64 x.b, .int .i64 x.c, .int .i64 x.d] 42 (0, 0))) ∧ Hid (wr.heap[w.heap.size + 1]? = some (.cells #[.int .i64 0, .int .i64 0, .int .i64 0, .int .i64 0] 42 (0, 0))) ∧ Hid (Below w.heap.size w wr)) (fun i _ => N - (intOf i).toNat)
  case atStart => exact ⟨0, los1, Nat.zero_le _, rfl, Lib.hid rfl, Xs, Xx, Xr, HB⟩
  case round =>
    clear Xs Xx Xr HB
    obtain ⟨k, y, hk, rfl, hc, Xs, Xx, Xr, HB⟩ := hrel
    by_cases hlt : k < N
    · have HY := Lib.hid (costO_ok hc.out)
      have H2N := Lib.hid (fun h => (costO_no hc.out (show k < N by omega) h).symm.trans HR.out)
      have H2Y := Lib.hid (fun z h => costO_up (z := z) hc.out h)
      clear hc
      cases ht : twoO y x with
      | none =>
        have hr := H2N.out ht
        subst hr
        have HT := Lib.hid ht
        clear ht H2N H2Y
        have ls := lt_of_block Xs.out
        have s0 := bxc Xs.out 0 _ rfl
        have s1 := bxc Xs.out 1 _ rfl
        have s2 := bxc Xs.out 2 _ rfl
        have s3 := bxc Xs.out 3 _ rfl
        have lx := lt_of_block Xx.out
        have x0 := bxc Xx.out 0 _ rfl
        have x1 := bxc Xx.out 1 _ rfl
        have x2 := bxc Xx.out 2 _ rfl
        have x3 := bxc Xx.out 3 _ rfl
        go_wp2_with fail
        clear ls s0 s1 s2 s3 lx x0 x1 x2 x3
        refine (composed_any y x none _ HY.out HX.out HT.out).mono ?_
        rintro e w5 ⟨he, b1⟩
        obtain rfl : e = .returned (.tuple #[.agg #[.int .i64 0, .int .i64 0, .int .i64 0, .int .i64 0], .bool false]) := he
        replace Xs := Lib.hid (bxb Xs.out b1)
        replace Xx := Lib.hid (bxb Xx.out b1)
        replace Xr := Lib.hid (bxb Xr.out b1)
        replace HB := Lib.hid (HB.out.trans (b1.mono HB.out.size))
        clear b1
        have s5 := HB.out.size
        skip
        have Xr2 := Lib.hid (set_four (a := .int .i64 0) (b := .int .i64 0) (c := .int .i64 0) (d := .int .i64 0) Xr.out (show w.heap.size + 1 ≠ gs by omega))
        have HB2 := below_four (a := .int .i64 0) (b := .int .i64 0) (c := .int .i64 0) (d := .int .i64 0) HB.out (show w.heap.size ≤ gs by omega)
        have ls := lt_of_block Xs.out
        have s0 := bxc Xs.out 0 _ rfl
        have s1 := bxc Xs.out 1 _ rfl
        have s2 := bxc Xs.out 2 _ rfl
        have s3 := bxc Xs.out 3 _ rfl
        have fs0 := bxf Xs.out 0
        have fs1 := bxf Xs.out 1
        have fs2 := bxf Xs.out 2
        have fs3 := bxf Xs.out 3
        have rr := Xr2.out
        have r0 := bxc rr 0 _ rfl
        have r1 := bxc rr 1 _ rfl
        have r2 := bxc rr 2 _ rfl
        have r3 := bxc rr 3 _ rfl
        have f0 := bxf rr 0
        have f1 := bxf rr 1
        have f2 := bxf rr 2
        have f3 := bxf rr 3
        have lr := lt_of_block rr
        have lr0 := lt_of_block Xr.out
        have y4 := store_four rr (.int .i64 0) (.int .i64 0) (.int .i64 0) (.int .i64 0)
        have e0 := bxc y4 0 _ rfl
        have e1 := bxc y4 1 _ rfl
        have e2 := bxc y4 2 _ rfl
        have e3 := bxc y4 3 _ rfl
        clear y4 rr Xs Xx Xr Xr2 HX HY HB HR HT
        go_wp2
        exact bodyPost_ret (v := .tuple #[.agg #[.int .i64 0, .int .i64 0, .int .i64 0, .int .i64 0], .bool false]) (by simp [results, Tryz.results70, go_sem, e0, e1, e2, e3]) rfl ⟨rfl, below_four HB2 (by omega)⟩
      | some z =>
        have HT := Lib.hid ht
        have HC := Lib.hid (H2Y.out z ht)
        clear ht H2N H2Y
        have ls := lt_of_block Xs.out
        have s0 := bxc Xs.out 0 _ rfl
        have s1 := bxc Xs.out 1 _ rfl
        have s2 := bxc Xs.out 2 _ rfl
        have s3 := bxc Xs.out 3 _ rfl
        have lx := lt_of_block Xx.out
        have x0 := bxc Xx.out 0 _ rfl
        have x1 := bxc Xx.out 1 _ rfl
        have x2 := bxc Xx.out 2 _ rfl
        have x3 := bxc Xx.out 3 _ rfl
        go_wp2_with fail
        clear ls s0 s1 s2 s3 lx x0 x1 x2 x3
        refine (composed_any y x (some z) _ HY.out HX.out HT.out).mono ?_
        rintro e w5 ⟨he, b1⟩
        obtain rfl : e = .returned (.tuple #[.agg #[.int .i64 z.a, .int .i64 z.b, .int .i64 z.c, .int .i64 z.d], .bool true]) := he
        replace Xs := Lib.hid (bxb Xs.out b1)
        replace Xx := Lib.hid (bxb Xx.out b1)
        replace Xr := Lib.hid (bxb Xr.out b1)
        replace HB := Lib.hid (HB.out.trans (b1.mono HB.out.size))
        clear b1
        have s5 := HB.out.size
        have ls := lt_of_block Xs.out
        have s0 := bxc Xs.out 0 _ rfl
        have s1 := bxc Xs.out 1 _ rfl
        have s2 := bxc Xs.out 2 _ rfl
        have s3 := bxc Xs.out 3 _ rfl
        have fs0 := bxf Xs.out 0
        have fs1 := bxf Xs.out 1
        have fs2 := bxf Xs.out 2
        have fs3 := bxf Xs.out 3
        have XS := Lib.hid (store_four Xs.out (.int .i64 z.a) (.int .i64 z.b) (.int .i64 z.c) (.int .i64 z.d))
        have XX := Lib.hid (set_four (a := .int .i64 z.a) (b := .int .i64 z.b) (c := .int .i64 z.c) (d := .int .i64 z.d) Xx.out (show w.heap.size ≠ gs by omega))
        have XR := Lib.hid (set_four (a := .int .i64 z.a) (b := .int .i64 z.b) (c := .int .i64 z.c) (d := .int .i64 z.d) Xr.out (show w.heap.size + 1 ≠ gs by omega))
        have HW := Lib.hid (below_four (a := .int .i64 z.a) (b := .int .i64 z.b) (c := .int .i64 z.c) (d := .int .i64 z.d) HB.out (show w.heap.size ≤ gs by omega))
        clear Xs Xx Xr HB
        go_wp2
        go_roundw
        case rel => exact ⟨k + 1, z, by omega, by go_num, HC, XS, XX, XR, HW⟩
        case measure => simp [intOf]; omega
    · obtain rfl : k = N := by omega
      have hr := HR.out.symm.trans hc.out
      subst hr
      have HE := HB.out
      have sE := HE.size
      clear HR hc HX
      have ls := lt_of_block Xs.out
      have s0 := bxc Xs.out 0 _ rfl
      have s1 := bxc Xs.out 1 _ rfl
      have s2 := bxc Xs.out 2 _ rfl
      have s3 := bxc Xs.out 3 _ rfl
      have lr := lt_of_block Xr.out
      have r0 := bxc Xr.out 0 _ rfl
      have r1 := bxc Xr.out 1 _ rfl
      have r2 := bxc Xr.out 2 _ rfl
      have r3 := bxc Xr.out 3 _ rfl
      have fr0 := bxf Xr.out 0
      have fr1 := bxf Xr.out 1
      have fr2 := bxf Xr.out 2
      have fr3 := bxf Xr.out 3
      have y4 := store_four Xr.out (.int .i64 y.a) (.int .i64 y.b) (.int .i64 y.c) (.int .i64 y.d)
      have e0 := bxc y4 0 _ rfl
      have e1 := bxc y4 1 _ rfl
      have e2 := bxc y4 2 _ rfl
      have e3 := bxc y4 3 _ rfl
      clear y4 Xs Xx Xr HB
      go_wp2
      exact bodyPost_ret (v := .tuple #[.agg #[.int .i64 y.a, .int .i64 y.b, .int .i64 y.c, .int .i64 y.d], .bool true]) (by simp [results, Tryz.results70, go_sem, e0, e1, e2, e3]) rfl ⟨rfl, below_four HE (by omega)⟩

set_option maxRecDepth 100000 in
set_option maxHeartbeats 2000000 in
theorem jSpent_any (P A Z Y Q : Option Addr) (g cg n c m cm p cp q cq : Nat) (D : SvD) (N : Nat) (R : Option LosD) (w : World) (hN : N ≤ 1099511627777) (hx : LosOk D.cost) (hR : costO D.cost N = R) : Calls Tryz.prog 69 #[.agg #[.slice P g cg, .slice A n c, .slice Z m cm, .slice Y p cp, .int .i64 D.cost.a, .int .i64 D.cost.b, .int .i64 D.cost.c, .int .i64 D.cost.d, .int .i64 D.bud.a, .int .i64 D.bud.b, .int .i64 D.bud.c, .int .i64 D.bud.d, .int .i64 D.floor, .slice Q q cq], .int .i64 N] w fun e w' => e = losE R ∧ Below w.heap.size w w' := by
  obtain ⟨b0, xa, xr⟩ := box_two w #[.slice P g cg, .slice A n c, .slice Z m cm, .slice Y p cp, .int .i64 D.cost.a, .int .i64 D.cost.b, .int .i64 D.cost.c, .int .i64 D.cost.d, .int .i64 D.bud.a, .int .i64 D.bud.b, .int .i64 D.bud.c, .int .i64 D.bud.d, .int .i64 D.floor, .slice Q q cq] #[.int .i64 0, .int .i64 0, .int .i64 0, .int .i64 0] 44 42
  have Xx := Lib.hid xa
  have Xr := Lib.hid xr
  have HB := Lib.hid b0
  have HX := Lib.hid hx
  have HR := Lib.hid hR
  clear xa xr b0 hx hR
  go_enter Tryz.func69, Tryz.ntmps69
  go_wp2_with fail
  generalize (w.alloc (.cells #[.slice P g cg, .slice A n c, .slice Z m cm, .slice Y p cp, .int .i64 D.cost.a, .int .i64 D.cost.b, .int .i64 D.cost.c, .int .i64 D.cost.d, .int .i64 D.bud.a, .int .i64 D.bud.b, .int .i64 D.bud.c, .int .i64 D.bud.d, .int .i64 D.floor, .slice Q q cq] 44)).alloc (.cells #[.int .i64 0, .int .i64 0, .int .i64 0, .int .i64 0] 42) = w0 at *
  refine (pNone_any _).mono ?_
  rintro e w1 ⟨rfl, b1⟩
  replace Xx := Lib.hid (bxb Xx.out b1)
  replace Xr := Lib.hid (bxb Xr.out b1)
  replace HB := Lib.hid (HB.out.trans (b1.mono HB.out.size))
  clear b1
  have hgs := lt_of_block Xr.out
  have bn := below_new w1 (.cells #[.int .i64 1, .int .i64 1, .int .i64 0, .int .i64 1] 42)
  have Xs := Lib.hid (box_new w1 #[.int .i64 1, .int .i64 1, .int .i64 0, .int .i64 1] 42)
  replace Xx := Lib.hid (bxb Xx.out bn)
  replace Xr := Lib.hid (bxb Xr.out bn)
  replace HB := Lib.hid (HB.out.trans (bn.mono HB.out.size))
  clear bn
  go_wp2
  generalize w1.alloc (.cells #[.int .i64 1, .int .i64 1, .int .i64 0, .int .i64 1] 42) = w2 at *
  generalize w1.heap.size = gs at *
  go_loopw [1] (fun i wr => ∃ (k qq : Nat) (y : LosD), k + qq = N ∧ i = .int .i64 qq ∧ Hid (costO D.cost k = some y) ∧ Hid (wr.heap[gs]? = some (.cells #[.int .i64 y.a, .int .i64 y.b, .int .i64 y.c, .int .i64 y.d] 42 (0, 0))) ∧ Hid (wr.heap[w.heap.size]? = some (.cells #[.slice P g cg, .slice A n c, .slice Z m cm, .slice Y p cp, .int .i64 D.cost.a, .int .i64 D.cost.b, .int .i64 D.cost.c, .int .i64 D.cost.d, .int .i64 D.bud.a, .int .i64 D.bud.b, .int .i64 D.bud.c, .int .i64 D.bud.d, .int .i64 D.floor, .slice Q q cq] 44 (0, 0))) ∧ Hid (wr.heap[w.heap.size + 1]? = some (.cells #[.int .i64 0, .int .i64 0, .int .i64 0, .int .i64 0] 42 (0, 0))) ∧ Hid (Below w.heap.size w wr)) (fun i _ => (intOf i).toNat)
  case atStart => exact ⟨0, N, los1, by omega, rfl, Lib.hid rfl, Xs, Xx, Xr, HB⟩
  case round =>
    clear Xs Xx Xr HB
    obtain ⟨k, qq, y, hk, rfl, hc, Xs, Xx, Xr, HB⟩ := hrel
    by_cases hlt : 0 < qq
    · have HY := Lib.hid (costO_ok hc.out)
      have H2N := Lib.hid (fun h => (costO_no hc.out (show k < N by omega) h).symm.trans HR.out)
      have H2Y := Lib.hid (fun z h => costO_up (z := z) hc.out h)
      clear hc
      cases ht : twoO y D.cost with
      | none =>
        have hr := H2N.out ht
        subst hr
        have HT := Lib.hid ht
        clear ht H2N H2Y
        have ls := lt_of_block Xs.out
        have s0 := bxc Xs.out 0 _ rfl
        have s1 := bxc Xs.out 1 _ rfl
        have s2 := bxc Xs.out 2 _ rfl
        have s3 := bxc Xs.out 3 _ rfl
        have lx := lt_of_block Xx.out
        have x4 := bxc Xx.out 4 _ rfl
        have x5 := bxc Xx.out 5 _ rfl
        have x6 := bxc Xx.out 6 _ rfl
        have x7 := bxc Xx.out 7 _ rfl
        go_wp2_with fail
        clear ls s0 s1 s2 s3 lx x4 x5 x6 x7
        refine (pTwo_any y D.cost none _ HY.out HX.out HT.out).mono ?_
        rintro e w5 ⟨he, b1⟩
        obtain rfl : e = .returned (.tuple #[.agg #[.int .i64 0, .int .i64 0, .int .i64 0, .int .i64 0], .bool false]) := he
        replace Xs := Lib.hid (bxb Xs.out b1)
        replace Xx := Lib.hid (bxb Xx.out b1)
        replace Xr := Lib.hid (bxb Xr.out b1)
        replace HB := Lib.hid (HB.out.trans (b1.mono HB.out.size))
        clear b1
        have s5 := HB.out.size
        have bn := below_new w5 (.cells #[.int .i64 0, .int .i64 0, .int .i64 0, .int .i64 0] 42)
        replace Xs := Lib.hid (bxb Xs.out bn)
        replace Xx := Lib.hid (bxb Xx.out bn)
        replace Xr := Lib.hid (bxb Xr.out bn)
        replace HB := Lib.hid (HB.out.trans (bn.mono HB.out.size))
        clear bn
        have HE := HB.out
        have lr := lt_of_block Xr.out
        have r0 := bxc Xr.out 0 _ rfl
        have r1 := bxc Xr.out 1 _ rfl
        have r2 := bxc Xr.out 2 _ rfl
        have r3 := bxc Xr.out 3 _ rfl
        have fr0 := bxf Xr.out 0
        have fr1 := bxf Xr.out 1
        have fr2 := bxf Xr.out 2
        have fr3 := bxf Xr.out 3
        have y4 := store_four Xr.out (.int .i64 0) (.int .i64 0) (.int .i64 0) (.int .i64 0)
        have e0 := bxc y4 0 _ rfl
        have e1 := bxc y4 1 _ rfl
        have e2 := bxc y4 2 _ rfl
        have e3 := bxc y4 3 _ rfl
        clear y4 Xs Xx Xr HX HY HB HR HT
        go_wp2
        exact bodyPost_ret (v := .tuple #[.agg #[.int .i64 0, .int .i64 0, .int .i64 0, .int .i64 0], .bool false]) (by simp [results, Tryz.results69, go_sem, e0, e1, e2, e3]) rfl ⟨rfl, below_four HE (by omega)⟩
      | some z =>
        have HT := Lib.hid ht
        have HC := Lib.hid (H2Y.out z ht)
        clear ht H2N H2Y
        have ls := lt_of_block Xs.out
        have s0 := bxc Xs.out 0 _ rfl
        have s1 := bxc Xs.out 1 _ rfl
        have s2 := bxc Xs.out 2 _ rfl
        have s3 := bxc Xs.out 3 _ rfl
        have lx := lt_of_block Xx.out
        have x4 := bxc Xx.out 4 _ rfl
        have x5 := bxc Xx.out 5 _ rfl
        have x6 := bxc Xx.out 6 _ rfl
        have x7 := bxc Xx.out 7 _ rfl
        go_wp2_with fail
        clear ls s0 s1 s2 s3 lx x4 x5 x6 x7
        refine (pTwo_any y D.cost (some z) _ HY.out HX.out HT.out).mono ?_
        rintro e w5 ⟨he, b1⟩
        obtain rfl : e = .returned (.tuple #[.agg #[.int .i64 z.a, .int .i64 z.b, .int .i64 z.c, .int .i64 z.d], .bool true]) := he
        replace Xs := Lib.hid (bxb Xs.out b1)
        replace Xx := Lib.hid (bxb Xx.out b1)
        replace Xr := Lib.hid (bxb Xr.out b1)
        replace HB := Lib.hid (HB.out.trans (b1.mono HB.out.size))
        clear b1
        have s5 := HB.out.size
        have bn := below_new w5 (.cells #[.int .i64 z.a, .int .i64 z.b, .int .i64 z.c, .int .i64 z.d] 42)
        have Xn := Lib.hid (box_new w5 #[.int .i64 z.a, .int .i64 z.b, .int .i64 z.c, .int .i64 z.d] 42)
        replace Xs := Lib.hid (bxb Xs.out bn)
        replace Xx := Lib.hid (bxb Xx.out bn)
        replace Xr := Lib.hid (bxb Xr.out bn)
        replace HB := Lib.hid (HB.out.trans (bn.mono HB.out.size))
        clear bn
        have ls := lt_of_block Xs.out
        have s0 := bxc Xs.out 0 _ rfl
        have s1 := bxc Xs.out 1 _ rfl
        have s2 := bxc Xs.out 2 _ rfl
        have s3 := bxc Xs.out 3 _ rfl
        have ln := lt_of_block Xn.out
        have n0 := bxc Xn.out 0 _ rfl
        have n1 := bxc Xn.out 1 _ rfl
        have n2 := bxc Xn.out 2 _ rfl
        have n3 := bxc Xn.out 3 _ rfl
        have fs0 := bxf Xs.out 0
        have fs1 := bxf Xs.out 1
        have fs2 := bxf Xs.out 2
        have fs3 := bxf Xs.out 3
        have XS := Lib.hid (store_four Xs.out (.int .i64 z.a) (.int .i64 z.b) (.int .i64 z.c) (.int .i64 z.d))
        have XX := Lib.hid (set_four (a := .int .i64 z.a) (b := .int .i64 z.b) (c := .int .i64 z.c) (d := .int .i64 z.d) Xx.out (show w.heap.size ≠ gs by omega))
        have XR := Lib.hid (set_four (a := .int .i64 z.a) (b := .int .i64 z.b) (c := .int .i64 z.c) (d := .int .i64 z.d) Xr.out (show w.heap.size + 1 ≠ gs by omega))
        have HW := Lib.hid (below_four (a := .int .i64 z.a) (b := .int .i64 z.b) (c := .int .i64 z.c) (d := .int .i64 z.d) HB.out (show w.heap.size ≤ gs by omega))
        clear Xs Xx Xr Xn HB
        go_wp2
        go_roundw
        case rel => exact ⟨k + 1, qq - 1, z, by omega, by go_num, HC, XS, XX, XR, HW⟩
        case measure => simp [intOf]; omega
    · obtain rfl : qq = 0 := by omega
      obtain rfl : k = N := by omega
      have hr := HR.out.symm.trans hc.out
      subst hr
      have HE := HB.out
      have sE := HE.size
      clear HR hc HX
      have ls := lt_of_block Xs.out
      have s0 := bxc Xs.out 0 _ rfl
      have s1 := bxc Xs.out 1 _ rfl
      have s2 := bxc Xs.out 2 _ rfl
      have s3 := bxc Xs.out 3 _ rfl
      have lr := lt_of_block Xr.out
      have r0 := bxc Xr.out 0 _ rfl
      have r1 := bxc Xr.out 1 _ rfl
      have r2 := bxc Xr.out 2 _ rfl
      have r3 := bxc Xr.out 3 _ rfl
      have fr0 := bxf Xr.out 0
      have fr1 := bxf Xr.out 1
      have fr2 := bxf Xr.out 2
      have fr3 := bxf Xr.out 3
      have y4 := store_four Xr.out (.int .i64 y.a) (.int .i64 y.b) (.int .i64 y.c) (.int .i64 y.d)
      have e0 := bxc y4 0 _ rfl
      have e1 := bxc y4 1 _ rfl
      have e2 := bxc y4 2 _ rfl
      have e3 := bxc y4 3 _ rfl
      clear y4 Xs Xx Xr HB
      go_wp2
      exact bodyPost_ret (v := .tuple #[.agg #[.int .i64 y.a, .int .i64 y.b, .int .i64 y.c, .int .i64 y.d], .bool true]) (by simp [results, Tryz.results69, go_sem, e0, e1, e2, e3]) rfl ⟨rfl, below_four HE (by omega)⟩

set_option maxRecDepth 100000 in
set_option maxHeartbeats 2000000 in
theorem cmpFrac_le (n d p q : Int) (w : World) (hn : sm n) (hd : sm d) (hp : sm p) (hq : sm q) :
    Calls Tryz.prog 158 #[.agg #[.int .i64 n, .int .i64 d], .agg #[.int .i64 p, .int .i64 q]] w fun e w' => (∃ r : Int, e = .returned (.int .i64 r) ∧ (r ≤ 0 ↔ n * q ≤ p * d)) ∧ Below w.heap.size w w' := by
  obtain ⟨m0a, m0b⟩ := sm_mul hn hq
  obtain ⟨m1a, m1b⟩ := sm_mul hp hd
  clear hn hd hp hq
  obtain ⟨b0, x2, x3⟩ := box_two w #[.int .i64 n, .int .i64 d] #[.int .i64 p, .int .i64 q] 40 40
  have l2 := lt_of_block x2
  have l3 := lt_of_block x3
  have c20 := bxc x2 0 _ rfl
  have c21 := bxc x2 1 _ rfl
  have c30 := bxc x3 0 _ rfl
  have c31 := bxc x3 1 _ rfl
  have HB := Lib.hid b0
  clear x2 x3 b0
  go_enter Tryz.func158, Tryz.ntmps158
  by_cases hlt : n * q < p * d
  · go_wp2
    go_quiet (fail)
    go_wp2
    go_ret
    exact ⟨⟨-1, rfl, by omega⟩, below_drewN HB.out _⟩
  · by_cases hgt : p * d < n * q
    · go_wp2
      go_quiet (fail)
      go_wp2
      go_ret
      exact ⟨⟨1, rfl, by omega⟩, below_drewN HB.out _⟩
    · go_wp2
      go_quiet (fail)
      go_wp2
      go_ret
      exact ⟨⟨0, rfl, by omega⟩, below_drewN HB.out _⟩

theorem fCmp_le (n d p q : Int) (w : World) (hn : sm n) (hd : sm d) (hp : sm p) (hq : sm q) :
    Calls Tryz.prog 207 #[.agg #[.int .i64 n, .int .i64 d], .agg #[.int .i64 p, .int .i64 q]] w fun e w' => (∃ r : Int, e = .returned (.int .i64 r) ∧ (r ≤ 0 ↔ n * q ≤ p * d)) ∧ Below w.heap.size w w' := by
  refine (fCmp_any n d p q w hn hd hp hq).mono ?_
  rintro e w1 ⟨rfl, b1⟩
  refine ⟨⟨_, rfl, ?_⟩, b1⟩
  rcases Int.lt_trichotomy (n * q - p * d) 0 with h | h | h
  · rw [Int.sign_eq_neg_one_of_neg h]; omega
  · rw [h]; simp; omega
  · rw [Int.sign_eq_one_of_pos h]; omega
theorem inLos_1 {l x : LosD} (h : ¬ x.a * l.b ≤ l.a * x.b) : false = inLos l x := by unfold inLos; rw [decide_eq_false h]; rfl
theorem inLos_2 {l x : LosD} (h : x.a * l.b ≤ l.a * x.b) : decide (x.c * l.d ≤ l.c * x.d) = inLos l x := by unfold inLos; rw [decide_eq_true h]; rfl
theorem dec_iff {p q : Prop} [Decidable p] [Decidable q] {b : Bool} (h : p ↔ q) (h2 : decide q = b) : decide p = b := by rw [← h2]; exact decide_eq_decide.2 h

set_option maxRecDepth 100000 in
set_option maxHeartbeats 2000000 in
theorem isWithin_any (l x : LosD) (w : World) (hl : LosOk l) (hx : LosOk x) : Calls Tryz.prog 101 #[.agg #[.int .i64 l.a, .int .i64 l.b, .int .i64 l.c, .int .i64 l.d], .agg #[.int .i64 x.a, .int .i64 x.b, .int .i64 x.c, .int .i64 x.d]] w fun e w' => e = .returned (.bool (inLos l x)) ∧ Below w.heap.size w w' := by
  obtain ⟨b0, xl, xx⟩ := box_two w #[.int .i64 l.a, .int .i64 l.b, .int .i64 l.c, .int .i64 l.d] #[.int .i64 x.a, .int .i64 x.b, .int .i64 x.c, .int .i64 x.d] 42 42
  have Xl := Lib.hid xl
  have Xx := Lib.hid xx
  have HB := Lib.hid b0
  have HL := Lib.hid hl
  have HX := Lib.hid hx
  have I1 := Lib.hid (fun h => inLos_1 (l := l) (x := x) h)
  have I2 := Lib.hid (fun h => inLos_2 (l := l) (x := x) h)
  clear xl xx b0 hl hx
  go_enter Tryz.func101, Tryz.ntmps101
  have ll := lt_of_block Xl.out
  have l0 := bxc Xl.out 0 _ rfl
  have l1 := bxc Xl.out 1 _ rfl
  have lx := lt_of_block Xx.out
  have x0 := bxc Xx.out 0 _ rfl
  have x1 := bxc Xx.out 1 _ rfl
  go_wp2_with fail
  clear ll l0 l1 lx x0 x1
  generalize (w.alloc (.cells #[.int .i64 l.a, .int .i64 l.b, .int .i64 l.c, .int .i64 l.d] 42)).alloc (.cells #[.int .i64 x.a, .int .i64 x.b, .int .i64 x.c, .int .i64 x.d] 42) = w0 at *
  refine (cmpFrac_le x.a x.b l.a l.b _ (fracB_sm HX.out.f).1 (fracB_sm HX.out.f).2.1 (fracB_sm HL.out.f).1 (fracB_sm HL.out.f).2.1).mono ?_
  rintro e w1 ⟨⟨r, rfl, hr⟩, b1⟩
  replace Xl := Lib.hid (bxb Xl.out b1)
  replace Xx := Lib.hid (bxb Xx.out b1)
  replace HB := Lib.hid (HB.out.trans (b1.mono HB.out.size))
  clear b1
  have HR := Lib.hid hr
  clear hr
  by_cases h1 : r ≤ 0
  · have H2 := Lib.hid (I2.out (HR.out.1 h1))
    clear I1 I2 HR
    have ll := lt_of_block Xl.out
    have l2 := bxc Xl.out 2 _ rfl
    have l3 := bxc Xl.out 3 _ rfl
    have lx := lt_of_block Xx.out
    have x2 := bxc Xx.out 2 _ rfl
    have x3 := bxc Xx.out 3 _ rfl
    go_wp2_with fail
    clear ll l2 l3 lx x2 x3
    refine (cmpFrac_le x.c x.d l.c l.d _ (fracB_sm HX.out.g).1 (fracB_sm HX.out.g).2.1 (fracB_sm HL.out.g).1 (fracB_sm HL.out.g).2.1).mono ?_
    rintro e w2 ⟨⟨s, rfl, hs⟩, b1⟩
    replace Xl := Lib.hid (bxb Xl.out b1)
    replace Xx := Lib.hid (bxb Xx.out b1)
    replace HB := Lib.hid (HB.out.trans (b1.mono HB.out.size))
    have R := Lib.hid (dec_iff hs H2.out)
    clear b1 hs H2 HX HL Xl Xx
    go_wp2
    go_ret
    exact ⟨ret_bool R.out, HB.out⟩
  · have R := Lib.hid (I1.out (Int.not_le.1 (fun h => h1 (HR.out.2 h))))
    clear I1 I2 HR HX HL Xl Xx
    go_wp2
    go_ret
    exact ⟨ret_bool R.out, HB.out⟩

set_option maxRecDepth 100000 in
set_option maxHeartbeats 2000000 in
theorem pWithin_any (l x : LosD) (w : World) (hl : LosOk l) (hx : LosOk x) : Calls Tryz.prog 184 #[.agg #[.int .i64 l.a, .int .i64 l.b, .int .i64 l.c, .int .i64 l.d], .agg #[.int .i64 x.a, .int .i64 x.b, .int .i64 x.c, .int .i64 x.d]] w fun e w' => e = .returned (.bool (inLos l x)) ∧ Below w.heap.size w w' := by
  obtain ⟨b0, xl, xx⟩ := box_two w #[.int .i64 l.a, .int .i64 l.b, .int .i64 l.c, .int .i64 l.d] #[.int .i64 x.a, .int .i64 x.b, .int .i64 x.c, .int .i64 x.d] 42 42
  have Xl := Lib.hid xl
  have Xx := Lib.hid xx
  have HB := Lib.hid b0
  have HL := Lib.hid hl
  have HX := Lib.hid hx
  have I1 := Lib.hid (fun h => inLos_1 (l := l) (x := x) h)
  have I2 := Lib.hid (fun h => inLos_2 (l := l) (x := x) h)
  clear xl xx b0 hl hx
  go_enter Tryz.func184, Tryz.ntmps184
  have ll := lt_of_block Xl.out
  have l0 := bxc Xl.out 0 _ rfl
  have l1 := bxc Xl.out 1 _ rfl
  have lx := lt_of_block Xx.out
  have x0 := bxc Xx.out 0 _ rfl
  have x1 := bxc Xx.out 1 _ rfl
  go_wp2_with fail
  clear ll l0 l1 lx x0 x1
  generalize (w.alloc (.cells #[.int .i64 l.a, .int .i64 l.b, .int .i64 l.c, .int .i64 l.d] 42)).alloc (.cells #[.int .i64 x.a, .int .i64 x.b, .int .i64 x.c, .int .i64 x.d] 42) = w0 at *
  refine (fCmp_le x.a x.b l.a l.b _ (fracB_sm HX.out.f).1 (fracB_sm HX.out.f).2.1 (fracB_sm HL.out.f).1 (fracB_sm HL.out.f).2.1).mono ?_
  rintro e w1 ⟨⟨r, rfl, hr⟩, b1⟩
  replace Xl := Lib.hid (bxb Xl.out b1)
  replace Xx := Lib.hid (bxb Xx.out b1)
  replace HB := Lib.hid (HB.out.trans (b1.mono HB.out.size))
  clear b1
  have HR := Lib.hid hr
  clear hr
  by_cases h1 : r ≤ 0
  · have H2 := Lib.hid (I2.out (HR.out.1 h1))
    clear I1 I2 HR
    have ll := lt_of_block Xl.out
    have l2 := bxc Xl.out 2 _ rfl
    have l3 := bxc Xl.out 3 _ rfl
    have lx := lt_of_block Xx.out
    have x2 := bxc Xx.out 2 _ rfl
    have x3 := bxc Xx.out 3 _ rfl
    go_wp2_with fail
    clear ll l2 l3 lx x2 x3
    refine (fCmp_le x.c x.d l.c l.d _ (fracB_sm HX.out.g).1 (fracB_sm HX.out.g).2.1 (fracB_sm HL.out.g).1 (fracB_sm HL.out.g).2.1).mono ?_
    rintro e w2 ⟨⟨s, rfl, hs⟩, b1⟩
    replace Xl := Lib.hid (bxb Xl.out b1)
    replace Xx := Lib.hid (bxb Xx.out b1)
    replace HB := Lib.hid (HB.out.trans (b1.mono HB.out.size))
    have R := Lib.hid (dec_iff hs H2.out)
    clear b1 hs H2 HX HL Xl Xx
    go_wp2
    go_ret
    exact ⟨ret_bool R.out, HB.out⟩
  · have R := Lib.hid (I1.out (Int.not_le.1 (fun h => h1 (HR.out.2 h))))
    clear I1 I2 HR HX HL Xl Xx
    go_wp2
    go_ret
    exact ⟨ret_bool R.out, HB.out⟩

theorem fitsB_no {x b : LosD} {n : Nat} (h : costO x n = none) : false = fitsB x b n := by unfold fitsB; rw [h]
theorem fitsB_yes {x b z : LosD} {n : Nat} (h : costO x n = some z) : inLos b z = fitsB x b n := by unfold fitsB; rw [h]

set_option maxRecDepth 100000 in
set_option maxHeartbeats 2000000 in
theorem jFits_any (P A Z Y Q : Option Addr) (g cg n c m cm p cp q cq : Nat) (D : SvD) (N : Nat) (w : World) (hN : N ≤ 1099511627777) (hx : LosOk D.cost) (hb : LosOk D.bud) : Calls Tryz.prog 141 #[.agg #[.slice P g cg, .slice A n c, .slice Z m cm, .slice Y p cp, .int .i64 D.cost.a, .int .i64 D.cost.b, .int .i64 D.cost.c, .int .i64 D.cost.d, .int .i64 D.bud.a, .int .i64 D.bud.b, .int .i64 D.bud.c, .int .i64 D.bud.d, .int .i64 D.floor, .slice Q q cq], .int .i64 N] w fun e w' => e = .returned (.bool (fitsB D.cost D.bud N)) ∧ Below w.heap.size w w' := by
  have b0 := below_new w (.cells #[.slice P g cg, .slice A n c, .slice Z m cm, .slice Y p cp, .int .i64 D.cost.a, .int .i64 D.cost.b, .int .i64 D.cost.c, .int .i64 D.cost.d, .int .i64 D.bud.a, .int .i64 D.bud.b, .int .i64 D.bud.c, .int .i64 D.bud.d, .int .i64 D.floor, .slice Q q cq] 44)
  have Xx := Lib.hid (box_new w #[.slice P g cg, .slice A n c, .slice Z m cm, .slice Y p cp, .int .i64 D.cost.a, .int .i64 D.cost.b, .int .i64 D.cost.c, .int .i64 D.cost.d, .int .i64 D.bud.a, .int .i64 D.bud.b, .int .i64 D.bud.c, .int .i64 D.bud.d, .int .i64 D.floor, .slice Q q cq] 44)
  have HB := Lib.hid b0
  have HX := Lib.hid hx
  have HL := Lib.hid hb
  clear b0 hx hb
  cases hc : costO D.cost N with
  | none =>
    have R := Lib.hid (fitsB_no (b := D.bud) hc)
    have HR := Lib.hid hc
    clear hc
    go_enter Tryz.func141, Tryz.ntmps141
    have lx := lt_of_block Xx.out
    have x0 := bxc Xx.out 0 _ rfl
    have x1 := bxc Xx.out 1 _ rfl
    have x2 := bxc Xx.out 2 _ rfl
    have x3 := bxc Xx.out 3 _ rfl
    have x4 := bxc Xx.out 4 _ rfl
    have x5 := bxc Xx.out 5 _ rfl
    have x6 := bxc Xx.out 6 _ rfl
    have x7 := bxc Xx.out 7 _ rfl
    have x8 := bxc Xx.out 8 _ rfl
    have x9 := bxc Xx.out 9 _ rfl
    have x10 := bxc Xx.out 10 _ rfl
    have x11 := bxc Xx.out 11 _ rfl
    have x12 := bxc Xx.out 12 _ rfl
    have x13 := bxc Xx.out 13 _ rfl
    go_wp2_with fail
    clear lx x0 x1 x2 x3 x4 x5 x6 x7 x8 x9 x10 x11 x12 x13
    generalize w.alloc (.cells #[.slice P g cg, .slice A n c, .slice Z m cm, .slice Y p cp, .int .i64 D.cost.a, .int .i64 D.cost.b, .int .i64 D.cost.c, .int .i64 D.cost.d, .int .i64 D.bud.a, .int .i64 D.bud.b, .int .i64 D.bud.c, .int .i64 D.bud.d, .int .i64 D.floor, .slice Q q cq] 44) = w0 at *
    refine (jSpent_any P A Z Y Q g cg n c m cm p cp q cq D N none _ hN HX.out HR.out).mono ?_
    rintro e w1 ⟨he, b1⟩
    obtain rfl : e = .returned (.tuple #[.agg #[.int .i64 0, .int .i64 0, .int .i64 0, .int .i64 0], .bool false]) := he
    replace Xx := Lib.hid (bxb Xx.out b1)
    replace HB := Lib.hid (HB.out.trans (b1.mono HB.out.size))
    clear b1
    have b1 := below_new w1 (.cells #[.int .i64 0, .int .i64 0, .int .i64 0, .int .i64 0] 42)
    have Xn := Lib.hid (box_new w1 #[.int .i64 0, .int .i64 0, .int .i64 0, .int .i64 0] 42)
    replace Xx := Lib.hid (bxb Xx.out b1)
    replace HB := Lib.hid (HB.out.trans (b1.mono HB.out.size))
    clear b1
    go_wp2
    go_ret
    exact ⟨ret_bool R.out, HB.out⟩
  | some z =>
    have R := Lib.hid (fitsB_yes (b := D.bud) hc)
    have HR := Lib.hid hc
    have HZ := Lib.hid (costO_ok hc)
    clear hc
    go_enter Tryz.func141, Tryz.ntmps141
    have lx := lt_of_block Xx.out
    have x0 := bxc Xx.out 0 _ rfl
    have x1 := bxc Xx.out 1 _ rfl
    have x2 := bxc Xx.out 2 _ rfl
    have x3 := bxc Xx.out 3 _ rfl
    have x4 := bxc Xx.out 4 _ rfl
    have x5 := bxc Xx.out 5 _ rfl
    have x6 := bxc Xx.out 6 _ rfl
    have x7 := bxc Xx.out 7 _ rfl
    have x8 := bxc Xx.out 8 _ rfl
    have x9 := bxc Xx.out 9 _ rfl
    have x10 := bxc Xx.out 10 _ rfl
    have x11 := bxc Xx.out 11 _ rfl
    have x12 := bxc Xx.out 12 _ rfl
    have x13 := bxc Xx.out 13 _ rfl
    go_wp2_with fail
    clear lx x0 x1 x2 x3 x4 x5 x6 x7 x8 x9 x10 x11 x12 x13
    generalize w.alloc (.cells #[.slice P g cg, .slice A n c, .slice Z m cm, .slice Y p cp, .int .i64 D.cost.a, .int .i64 D.cost.b, .int .i64 D.cost.c, .int .i64 D.cost.d, .int .i64 D.bud.a, .int .i64 D.bud.b, .int .i64 D.bud.c, .int .i64 D.bud.d, .int .i64 D.floor, .slice Q q cq] 44) = w0 at *
    refine (jSpent_any P A Z Y Q g cg n c m cm p cp q cq D N (some z) _ hN HX.out HR.out).mono ?_
    rintro e w1 ⟨he, b1⟩
    obtain rfl : e = .returned (.tuple #[.agg #[.int .i64 z.a, .int .i64 z.b, .int .i64 z.c, .int .i64 z.d], .bool true]) := he
    replace Xx := Lib.hid (bxb Xx.out b1)
    replace HB := Lib.hid (HB.out.trans (b1.mono HB.out.size))
    clear b1
    have b1 := below_new w1 (.cells #[.int .i64 z.a, .int .i64 z.b, .int .i64 z.c, .int .i64 z.d] 42)
    have Xn := Lib.hid (box_new w1 #[.int .i64 z.a, .int .i64 z.b, .int .i64 z.c, .int .i64 z.d] 42)
    replace Xx := Lib.hid (bxb Xx.out b1)
    replace HB := Lib.hid (HB.out.trans (b1.mono HB.out.size))
    clear b1
    have lx := lt_of_block Xx.out
    have x8 := bxc Xx.out 8 _ rfl
    have x9 := bxc Xx.out 9 _ rfl
    have x10 := bxc Xx.out 10 _ rfl
    have x11 := bxc Xx.out 11 _ rfl
    have ln := lt_of_block Xn.out
    have n0 := bxc Xn.out 0 _ rfl
    have n1 := bxc Xn.out 1 _ rfl
    have n2 := bxc Xn.out 2 _ rfl
    have n3 := bxc Xn.out 3 _ rfl
    go_wp2_with fail
    clear lx x8 x9 x10 x11 ln n0 n1 n2 n3
    generalize w1.alloc (.cells #[.int .i64 z.a, .int .i64 z.b, .int .i64 z.c, .int .i64 z.d] 42) = w2 at *
    refine (pWithin_any D.bud z _ HL.out HZ.out).mono ?_
    rintro e w3 ⟨rfl, b1⟩
    replace Xx := Lib.hid (bxb Xx.out b1)
    replace HB := Lib.hid (HB.out.trans (b1.mono HB.out.size))
    clear b1
    rw [R.out]
    go_wp2
    go_ret
    exact ⟨rfl, HB.out⟩
end
end Go.Proofs.YtfanpbfmnckmnaaGreat
