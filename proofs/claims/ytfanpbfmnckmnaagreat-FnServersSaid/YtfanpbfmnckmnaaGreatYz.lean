/- Several small texts in one: AkW, LwS, AkY. -/
import Derived.Test.YtfanpbfmnckmnaaGreatYl
import Derived.Test.YtfanpbfmnckmnaaGreatTbo
import Derived.Test.YtfanpbfmnckmnaaGreatYg
import Derived.Test.YtfanpbfmnckmnaaGreatYs
import Derived.Test.YtfanpbfmnckmnaaGreatYn
import Derived.Test.YtfanpbfmnckmnaaGreatYk
import Derived.Deep.RegionLaw
import Derived.Test.YtfanpbfmnckmnaaGreatAkF
namespace Go.Proofs.YtfanpbfmnckmnaaGreat

section
open Go.RowKit

set_option maxRecDepth 100000 in
set_option maxHeartbeats 4000000 in
theorem areTabled_any (P A Z V U : Option Addr) (g cg n c m tm td tk te : Nat) (D : SvD) (t : TabD) (w : World) (hO : SurOk D) (ht : tabB D.par D.vs t = true) (hR : SurR w P A Z g n c m D) (hT : TabR w V tm U tk t) :
    Calls Tryz.prog 102 #[.agg #[.slice P g cg], .slice A n c, .agg #[.int .i64 t.lv, .slice V tm td, .slice U tk te, .int .i64 t.sum]] w fun e w' => e = .returned (.bool true) ∧ Below w.heap.size w w' := by
  obtain ⟨b0, x1, x2⟩ := box_two w #[.slice P g cg] #[.int .i64 t.lv, .slice V tm td, .slice U tk te, .int .i64 t.sum] 36 56
  have HR := Lib.hid (hR.below b0)
  have HT := Lib.hid (hT.below b0)
  have X1 := Lib.hid x1
  have X2 := Lib.hid x2
  have HB := Lib.hid b0
  clear hR hT b0 x1 x2
  have HO := Lib.hid hO
  have KT := Lib.hid ht
  have KO := Lib.hid (hO.tab HR.out ht)
  clear hO ht
  go_enter Tryz.func102, Tryz.ntmps102
  have c20 := bxc X2.out 0 _ rfl
  have c21 := bxc X2.out 1 _ rfl
  have c22 := bxc X2.out 2 _ rfl
  have c23 := bxc X2.out 3 _ rfl
  have c10 := bxc X1.out 0 _ rfl
  have l1 := lt_of_block X1.out
  have l2 := lt_of_block X2.out
  go_wp2_with fail
  clear c10 c20 c21 c22 c23 l1 l2
  generalize ((w.alloc (.cells #[.slice P g cg] 36)).alloc (.cells #[.int .i64 t.lv, .slice V tm td, .slice U tk te, .int .i64 t.sum] 56)) = w0 at *
  refine (IsGeo_any P g cg D.par _ HR.out.p).mono ?_
  rintro e w1 ⟨rfl, b1⟩
  rw [HO.out.g]
  replace HR := Lib.hid (HR.out.below b1)
  replace HT := Lib.hid (HT.out.below b1)
  replace X1 := Lib.hid (bxb X1.out b1)
  replace X2 := Lib.hid (bxb X2.out b1)
  replace HB := Lib.hid (HB.out.trans (b1.mono HB.out.size))
  clear b1
  have c20 := bxc X2.out 0 _ rfl
  have c21 := bxc X2.out 1 _ rfl
  have c22 := bxc X2.out 2 _ rfl
  have c23 := bxc X2.out 3 _ rfl
  have c10 := bxc X1.out 0 _ rfl
  have l1 := lt_of_block X1.out
  have l2 := lt_of_block X2.out
  go_wp2_with fail
  clear c10 c20 c21 c22 c23 l1 l2
  refine (IsSchema_any A n c D.vs _ HR.out.s.v HR.out.s.s HR.out.s.bd HR.out.s.cp).mono ?_
  rintro e w2 ⟨rfl, b2⟩
  rw [HO.out.s]
  replace HR := Lib.hid (HR.out.below b2)
  replace HT := Lib.hid (HT.out.below b2)
  replace X1 := Lib.hid (bxb X1.out b2)
  replace X2 := Lib.hid (bxb X2.out b2)
  replace HB := Lib.hid (HB.out.trans (b2.mono HB.out.size))
  clear b2
  have c20 := bxc X2.out 0 _ rfl
  have c21 := bxc X2.out 1 _ rfl
  have c22 := bxc X2.out 2 _ rfl
  have c23 := bxc X2.out 3 _ rfl
  have c10 := bxc X1.out 0 _ rfl
  have l1 := lt_of_block X1.out
  have l2 := lt_of_block X2.out
  go_wp2_with fail
  clear c10 c20 c21 c22 c23 l1 l2
  refine (isTable_any P A V U g cg n c tm td tk te D.par t D.vs _ KO.out.geo HO.out.s HR.out.p HR.out.s HT.out).mono ?_
  rintro e w3 ⟨rfl, b3⟩
  rw [KT.out]
  replace HR := Lib.hid (HR.out.below b3)
  replace HT := Lib.hid (HT.out.below b3)
  replace X1 := Lib.hid (bxb X1.out b3)
  replace X2 := Lib.hid (bxb X2.out b3)
  replace HB := Lib.hid (HB.out.trans (b3.mono HB.out.size))
  clear b3
  go_wp2
  go_ret
  exact ⟨rfl, HB.out⟩

set_option maxRecDepth 100000 in
set_option maxHeartbeats 4000000 in
theorem implTableOf_any (P A Z V U : Option Addr) (g cg n c m cm tm td tk te : Nat) (D : SvD) (t : TabD) (w : World) (hO : SurOk D) (ht : tabB D.par D.vs t = true) (hR : SurR w P A Z g n c m D) (hT : TabR w V tm U tk t) :
    Calls Tryz.prog 46 #[.agg #[.slice P g cg], .slice A n c, .agg #[.int .i64 t.lv, .slice V tm td, .slice U tk te, .int .i64 t.sum], .slice Z m cm] w fun e w' => ∃ A' c', e = .returned (.tuple #[.slice A' (cntV D.par D.vs t).toNat c', .bool true]) ∧ OwnI w' w.heap.size w'.heap.size A' (cntV D.par D.vs t).toNat c' (D.tbl t) ∧ Below w.heap.size w w' := by
  obtain ⟨b0, x1, x2⟩ := box_two w #[.slice P g cg] #[.int .i64 t.lv, .slice V tm td, .slice U tk te, .int .i64 t.sum] 36 56
  have HR := Lib.hid (hR.below b0)
  have HT := Lib.hid (hT.below b0)
  have X1 := Lib.hid x1
  have X2 := Lib.hid x2
  have HB := Lib.hid b0
  clear hR hT b0 x1 x2
  have HO := Lib.hid hO
  have KT := Lib.hid ht
  have KO := Lib.hid (hO.tab HR.out ht)
  have KB := Lib.hid (show (cntV D.par D.vs t).toNat ≤ 1000 by have h1 := cntV_bd (tabB_ok hO.g hO.s ht); omega)
  clear hO ht
  go_enter Tryz.func46, Tryz.ntmps46
  have c20 := bxc X2.out 0 _ rfl
  have c21 := bxc X2.out 1 _ rfl
  have c22 := bxc X2.out 2 _ rfl
  have c23 := bxc X2.out 3 _ rfl
  have c10 := bxc X1.out 0 _ rfl
  have l1 := lt_of_block X1.out
  have l2 := lt_of_block X2.out
  go_wp2_with fail
  clear c10 c20 c21 c22 c23 l1 l2
  generalize ((w.alloc (.cells #[.slice P g cg] 36)).alloc (.cells #[.int .i64 t.lv, .slice V tm td, .slice U tk te, .int .i64 t.sum] 56)) = w0 at *
  refine (areTabled_any P A Z V U g cg n c m tm td tk te D t _ HO.out KT.out HR.out HT.out).mono ?_
  rintro e w1 ⟨rfl, b1⟩
  replace HR := Lib.hid (HR.out.below b1)
  replace HT := Lib.hid (HT.out.below b1)
  replace X1 := Lib.hid (bxb X1.out b1)
  replace X2 := Lib.hid (bxb X2.out b1)
  replace HB := Lib.hid (HB.out.trans (b1.mono HB.out.size))
  clear b1
  have c20 := bxc X2.out 0 _ rfl
  have c21 := bxc X2.out 1 _ rfl
  have c22 := bxc X2.out 2 _ rfl
  have c23 := bxc X2.out 3 _ rfl
  have c10 := bxc X1.out 0 _ rfl
  have l1 := lt_of_block X1.out
  have l2 := lt_of_block X2.out
  go_wp2_with fail
  clear c10 c20 c21 c22 c23 l1 l2
  refine (isSurvey_any P A Z g cg n c m cm D.par D.vs D.rs _ HR.out.p HR.out.s HR.out.d).mono ?_
  rintro e w2 ⟨rfl, b2⟩
  rw [HO.out.d]
  replace HR := Lib.hid (HR.out.below b2)
  replace HT := Lib.hid (HT.out.below b2)
  replace X1 := Lib.hid (bxb X1.out b2)
  replace X2 := Lib.hid (bxb X2.out b2)
  replace HB := Lib.hid (HB.out.trans (b2.mono HB.out.size))
  clear b2
  have c20 := bxc X2.out 0 _ rfl
  have c21 := bxc X2.out 1 _ rfl
  have c22 := bxc X2.out 2 _ rfl
  have c23 := bxc X2.out 3 _ rfl
  have c10 := bxc X1.out 0 _ rfl
  have l1 := lt_of_block X1.out
  have l2 := lt_of_block X2.out
  go_wp2_with fail
  clear c10 c20 c21 c22 c23 l1 l2
  refine (tableOf_any P A V U Z g cg n c tm td tk te m cm D.par t D.vs D.rs _ KO.out HO.out.d HR.out.p HR.out.s HT.out HR.out.d).mono ?_
  rintro e w3 ⟨A', c', rfl, hown, b3⟩
  have HF := Lib.hid (HB.out.trans (b3.mono HB.out.size))
  have z := HB.out.size
  have HW := Lib.hid ((OwnI.of_own hown (by have := KB.out; omega)).fit z)
  clear hown b3 HB X1 X2 HR HT
  go_wp2
  go_ret2
  exact ⟨A', c', rfl, HW.out, HF.out⟩

set_option maxRecDepth 100000 in
set_option maxHeartbeats 4000000 in
theorem IsWithin_any (l x : LosD) (w : World) (hl : losB l = true) (hx : losB x = true) :
    Calls Tryz.prog 45 #[.agg #[.int .i64 l.a, .int .i64 l.b, .int .i64 l.c, .int .i64 l.d], .agg #[.int .i64 x.a, .int .i64 x.b, .int .i64 x.c, .int .i64 x.d]] w fun e w' => e = .returned (.tuple #[.bool (inLos l x), .bool true]) ∧ Below w.heap.size w w' := by
  obtain ⟨b0, x1, x2⟩ := box_two w #[.int .i64 l.a, .int .i64 l.b, .int .i64 l.c, .int .i64 l.d] #[.int .i64 x.a, .int .i64 x.b, .int .i64 x.c, .int .i64 x.d] 42 42
  have X1 := Lib.hid x1
  have X2 := Lib.hid x2
  have HB := Lib.hid b0
  have HL := Lib.hid hl
  have HX := Lib.hid hx
  clear b0 x1 x2 hl hx
  go_enter Tryz.func45, Tryz.ntmps45
  have c10 := bxc X1.out 0 _ rfl
  have c11 := bxc X1.out 1 _ rfl
  have c12 := bxc X1.out 2 _ rfl
  have c13 := bxc X1.out 3 _ rfl
  have c20 := bxc X2.out 0 _ rfl
  have c21 := bxc X2.out 1 _ rfl
  have c22 := bxc X2.out 2 _ rfl
  have c23 := bxc X2.out 3 _ rfl
  have l1 := lt_of_block X1.out
  have l2 := lt_of_block X2.out
  go_wp2_with fail
  clear l1 l2 c10 c11 c12 c13 c20 c21 c22 c23
  generalize ((w.alloc (.cells #[.int .i64 l.a, .int .i64 l.b, .int .i64 l.c, .int .i64 l.d] 42)).alloc (.cells #[.int .i64 x.a, .int .i64 x.b, .int .i64 x.c, .int .i64 x.d] 42)) = w0 at *
  refine (IsLoss_any l _).mono ?_
  rintro e w1 ⟨rfl, b1⟩
  rw [HL.out]
  replace X1 := Lib.hid (bxb X1.out b1)
  replace X2 := Lib.hid (bxb X2.out b1)
  replace HB := Lib.hid (HB.out.trans (b1.mono HB.out.size))
  clear b1
  have c10 := bxc X1.out 0 _ rfl
  have c11 := bxc X1.out 1 _ rfl
  have c12 := bxc X1.out 2 _ rfl
  have c13 := bxc X1.out 3 _ rfl
  have c20 := bxc X2.out 0 _ rfl
  have c21 := bxc X2.out 1 _ rfl
  have c22 := bxc X2.out 2 _ rfl
  have c23 := bxc X2.out 3 _ rfl
  have l1 := lt_of_block X1.out
  have l2 := lt_of_block X2.out
  go_wp2_with fail
  clear l1 l2 c10 c11 c12 c13 c20 c21 c22 c23
  refine (IsLoss_any x _).mono ?_
  rintro e w2 ⟨rfl, b2⟩
  rw [HX.out]
  replace X1 := Lib.hid (bxb X1.out b2)
  replace X2 := Lib.hid (bxb X2.out b2)
  replace HB := Lib.hid (HB.out.trans (b2.mono HB.out.size))
  clear b2
  have c10 := bxc X1.out 0 _ rfl
  have c11 := bxc X1.out 1 _ rfl
  have c12 := bxc X1.out 2 _ rfl
  have c13 := bxc X1.out 3 _ rfl
  have c20 := bxc X2.out 0 _ rfl
  have c21 := bxc X2.out 1 _ rfl
  have c22 := bxc X2.out 2 _ rfl
  have c23 := bxc X2.out 3 _ rfl
  have l1 := lt_of_block X1.out
  have l2 := lt_of_block X2.out
  go_wp2_with fail
  clear l1 l2 c10 c11 c12 c13 c20 c21 c22 c23
  refine (isWithin_any l x _ (losB_ok HL.out) (losB_ok HX.out)).mono ?_
  rintro e w3 ⟨rfl, b3⟩
  replace X1 := Lib.hid (bxb X1.out b3)
  replace X2 := Lib.hid (bxb X2.out b3)
  replace HB := Lib.hid (HB.out.trans (b3.mono HB.out.size))
  clear b3
  go_wp2
  go_ret2
  exact ⟨rfl, HB.out⟩
end

section
open Go.RowKit

set_option maxRecDepth 100000 in
set_option maxHeartbeats 4000000 in
theorem qSchema_any (A A' : Option Addr) (n c c' : Nat) (vs : List (ByteArray × Int)) (w : World) (hx : SchR w A n c vs) (hy : SchR w A' n c' vs) :
    Calls Tryz.prog 98 #[.slice A n c, .slice A' n c'] w fun e w' => e = .returned (.bool true) ∧ Below w.heap.size w w' := by
  have hn := hx.bd
  have HX := Lib.hid hx
  have HY := Lib.hid hy
  clear hx hy
  have hq : ((n : Int) != n) = false := by simp
  go_enter Tryz.func98, Tryz.ntmps98
  go_wp2
  clear hq
  go_loopw [13] (fun i wr => ∃ k : Nat, k ≤ n ∧ i = .int .i64 k ∧ Hid (Below w.heap.size w wr)) (fun i _ => n - (intOf i).toNat)
  case atStart => exact ⟨0, Nat.zero_le _, rfl, Lib.hid (Below.refl _ _)⟩
  case round =>
    obtain ⟨k, hk, rfl, hb⟩ := hrel
    by_cases hlt : k < n
    · obtain ⟨ad, rfl, p0, p1⟩ := (HX.out.below hb.out).v.at_ hlt
      obtain ⟨ad', rfl, q0, q1⟩ := (HY.out.below hb.out).v.at_ hlt
      generalize vN vs k = s at *
      generalize vL vs k = l at *
      have HB := Lib.hid (Lib.hid (hb.out.trans ((Below.refl _ _).drew.mono hb.out.size)))
      go_wp2_with fail
      go_region_law (fail)
      all_goals go_wp2
      all_goals go_roundw
      all_goals (first | exact ⟨k + 1, by omega, by go_num, HB.out⟩ | (simp [intOf]; omega))
    · obtain rfl : n = k := by omega
      have HB := Lib.hid hb.out
      go_wp2
      go_ret
      exact ⟨rfl, HB.out⟩

set_option maxRecDepth 100000 in
set_option maxHeartbeats 4000000 in
theorem qRecord_any (V V' : Option Addr) (x y : Int) (m d d' : Nat) (xs : List Int) (w : World) (hx : IntR w V m xs) (hy : IntR w V' m xs) :
    Calls Tryz.prog 157 #[.agg #[.int .i64 x, .int .i64 y, .slice V m d], .agg #[.int .i64 x, .int .i64 y, .slice V' m d']] w fun e w' => e = .returned (.bool true) ∧ Below w.heap.size w w' := by
  obtain ⟨b0, x2, x3⟩ := box_two w #[.int .i64 x, .int .i64 y, .slice V m d] #[.int .i64 x, .int .i64 y, .slice V' m d'] 135 135
  have HX := Lib.hid (hx.below b0)
  have HY := Lib.hid (hy.below b0)
  have HB := Lib.hid b0
  have l2 := lt_of_block x2
  have l3 := lt_of_block x3
  have c20 := bxc x2 0 _ rfl
  have c21 := bxc x2 1 _ rfl
  have c22 := bxc x2 2 _ rfl
  have c30 := bxc x3 0 _ rfl
  have c31 := bxc x3 1 _ rfl
  have c32 := bxc x3 2 _ rfl
  have k1 : (x == x) = true := by simp
  have k2 : (y == y) = true := by simp
  have k3 : (xs == xs) = true := by simp
  clear x2 x3 b0 hx hy
  go_enter Tryz.func157, Tryz.ntmps157
  go_wp2_with fail
  clear c20 c21 c22 c30 c31 c32 l2 l3
  generalize (w.alloc (.cells #[.int .i64 x, .int .i64 y, .slice V m d] 135)).alloc (.cells #[.int .i64 x, .int .i64 y, .slice V' m d'] 135) = w0 at *
  refine (qInts_any _ _ _ _ _ _ xs xs _ HX.out HY.out).mono ?_
  rintro e w6 ⟨rfl, b6⟩
  rw [k3]
  have HF := Lib.hid (HB.out.trans (b6.mono HB.out.size))
  clear b6 HB
  go_wp2
  go_ret
  exact ⟨rfl, HF.out⟩

set_option maxRecDepth 100000 in
set_option maxHeartbeats 4000000 in
theorem qData_any (A A' : Option Addr) (n c c' : Nat) (rs : List RecD) (w : World) (hx : DatR w A n rs) (hy : DatR w A' n rs) :
    Calls Tryz.prog 99 #[.slice A n c, .slice A' n c'] w fun e w' => e = .returned (.bool true) ∧ Below w.heap.size w w' := by
  have hn := hx.bd
  have HX := Lib.hid hx
  have HY := Lib.hid hy
  clear hx hy
  have hq : ((n : Int) != n) = false := by simp
  go_enter Tryz.func99, Tryz.ntmps99
  go_wp2
  clear hq
  go_loopw [13] (fun i wr => ∃ k : Nat, k ≤ n ∧ i = .int .i64 k ∧ Hid (Below w.heap.size w wr)) (fun i _ => n - (intOf i).toNat)
  case atStart => exact ⟨0, Nat.zero_le _, rfl, Lib.hid (Below.refl _ _)⟩
  case round =>
    obtain ⟨k, hk, rfl, hb⟩ := hrel
    by_cases hlt : k < n
    · obtain ⟨ad, rfl, p0, p1, V, l, d, p2, hv⟩ := (HX.out.below hb.out).r.at_ hlt
      obtain ⟨ad', rfl, q0, q1, V', l', d', q2, hv'⟩ := (HY.out.below hb.out).r.at_ hlt
      have hbs := HX.out.s k hlt
      obtain rfl : l = (rV rs k).length := hv.1.symm
      obtain rfl : l' = (rV rs k).length := hv'.1.symm
      have HV := Lib.hid ((⟨hv, hbs⟩ : IntR wr V (rV rs k).length (rV rs k)).below (Below.refl _ _).drew)
      have HV' := Lib.hid ((⟨hv', hbs⟩ : IntR wr V' (rV rs k).length (rV rs k)).below (Below.refl _ _).drew)
      clear hv hv'
      go_wp2_with fail
      go_region_law ((go_simp; go_at_call 157; refine (qRecord_any V V' (rA rs k) (rH rs k) (rV rs k).length d d' (rV rs k) _ HV.out HV'.out).mono ?_; rintro e w5 ⟨rfl, b5⟩; have HB := Lib.hid (Lib.hid (hb.out.trans (((Below.refl _ _).drew.trans b5).mono hb.out.size))); clear b5; dsimp only))
      all_goals go_wp2
      all_goals go_roundw
      all_goals (first | exact ⟨k + 1, by omega, by go_num, HB.out⟩ | (simp [intOf]; omega))
    · obtain rfl : n = k := by omega
      have HB := Lib.hid hb.out
      go_wp2
      go_ret
      exact ⟨rfl, HB.out⟩

set_option maxRecDepth 100000 in
set_option maxHeartbeats 4000000 in
theorem qTables_any (A A' : Option Addr) (n c c' : Nat) (ts : List TabD) (w : World) (hx : TabsR w A n ts) (hy : TabsR w A' n ts) :
    Calls Tryz.prog 100 #[.slice A n c, .slice A' n c'] w fun e w' => e = .returned (.bool true) ∧ Below w.heap.size w w' := by
  have hn := hx.bd
  have HX := Lib.hid hx
  have HY := Lib.hid hy
  clear hx hy
  have hq : ((n : Int) != n) = false := by simp
  go_enter Tryz.func100, Tryz.ntmps100
  go_wp2
  clear hq
  go_loopw [13] (fun i wr => ∃ k : Nat, k ≤ n ∧ i = .int .i64 k ∧ Hid (Below w.heap.size w wr)) (fun i _ => n - (intOf i).toNat)
  case atStart => exact ⟨0, Nat.zero_le _, rfl, Lib.hid (Below.refl _ _)⟩
  case round =>
    obtain ⟨k, hk, rfl, hb⟩ := hrel
    by_cases hlt : k < n
    · obtain ⟨ad, rfl, V, m, d, U, l, e, p0, p1, p2, p3, hu⟩ := (HX.out.below hb.out).at_ hlt
      obtain ⟨ad', rfl, V', m', d', U', l', e', q0, q1, q2, q3, hu'⟩ := (HY.out.below hb.out).at_ hlt
      have HU := Lib.hid (hu.below (Below.refl _ _).drew)
      have HU' := Lib.hid (hu'.below (Below.refl _ _).drew)
      have KT := Lib.hid (sameT_refl (tX ts k))
      clear hu hu'
      go_wp2_with fail
      go_region_law ((go_simp; go_at_call 37; refine (qTable_any V U V' U' m d l e m' d' l' e' (tX ts k) (tX ts k) _ HU.out HU'.out).mono ?_; rintro e9 w5 ⟨rfl, b5⟩; rw [KT.out]; have HB := Lib.hid (Lib.hid (hb.out.trans (((Below.refl _ _).drew.trans b5).mono hb.out.size))); clear b5; dsimp only))
      all_goals go_wp2
      all_goals go_roundw
      all_goals (first | exact ⟨k + 1, by omega, by go_num, HB.out⟩ | (simp [intOf]; omega))
    · obtain rfl : n = k := by omega
      have HB := Lib.hid hb.out
      go_wp2
      go_ret
      exact ⟨rfl, HB.out⟩

set_option maxRecDepth 100000 in
set_option maxHeartbeats 4000000 in
theorem qServer_any (P A Z Y Q P1 A1 Z1 Y1 Q1 : Option Addr) (g cg n c m cm p cp q cq cg1 c1 cm1 cp1 cq1 : Nat) (D : SvD) (w : World) (hx : SvR w P A Z Y Q g n c m p cp q cq D) (hy : SvR w P1 A1 Z1 Y1 Q1 g n c1 m p cp1 q cq1 D) :
    Calls Tryz.prog 44 #[.agg #[.slice P g cg, .slice A n c, .slice Z m cm, .slice Y p cp, .int .i64 D.cost.a, .int .i64 D.cost.b, .int .i64 D.cost.c, .int .i64 D.cost.d, .int .i64 D.bud.a, .int .i64 D.bud.b, .int .i64 D.bud.c, .int .i64 D.bud.d, .int .i64 D.floor, .slice Q q cq], .agg #[.slice P1 g cg1, .slice A1 n c1, .slice Z1 m cm1, .slice Y1 p cp1, .int .i64 D.cost.a, .int .i64 D.cost.b, .int .i64 D.cost.c, .int .i64 D.cost.d, .int .i64 D.bud.a, .int .i64 D.bud.b, .int .i64 D.bud.c, .int .i64 D.bud.d, .int .i64 D.floor, .slice Q1 q cq1]] w fun e w' => e = .returned (.bool true) ∧ Below w.heap.size w w' := by
  obtain ⟨b0, x2, x3⟩ := box_two w #[.slice P g cg, .slice A n c, .slice Z m cm, .slice Y p cp, .int .i64 D.cost.a, .int .i64 D.cost.b, .int .i64 D.cost.c, .int .i64 D.cost.d, .int .i64 D.bud.a, .int .i64 D.bud.b, .int .i64 D.bud.c, .int .i64 D.bud.d, .int .i64 D.floor, .slice Q q cq] #[.slice P1 g cg1, .slice A1 n c1, .slice Z1 m cm1, .slice Y1 p cp1, .int .i64 D.cost.a, .int .i64 D.cost.b, .int .i64 D.cost.c, .int .i64 D.cost.d, .int .i64 D.bud.a, .int .i64 D.bud.b, .int .i64 D.bud.c, .int .i64 D.bud.d, .int .i64 D.floor, .slice Q1 q cq1] 44 44
  have HX := Lib.hid (hx.below b0)
  have HY := Lib.hid (hy.below b0)
  have HB := Lib.hid b0
  have X2 := Lib.hid x2
  have X3 := Lib.hid x3
  have KP := Lib.hid (show (D.par == D.par) = true by simp)
  have k0 : ( D.cost.a ==  D.cost.a) = true := by simp
  have k1 : ( D.cost.b ==  D.cost.b) = true := by simp
  have k2 : ( D.cost.c ==  D.cost.c) = true := by simp
  have k3 : ( D.cost.d ==  D.cost.d) = true := by simp
  have k4 : ( D.bud.a ==  D.bud.a) = true := by simp
  have k5 : ( D.bud.b ==  D.bud.b) = true := by simp
  have k6 : ( D.bud.c ==  D.bud.c) = true := by simp
  have k7 : ( D.bud.d ==  D.bud.d) = true := by simp
  have k8 : ( D.floor ==  D.floor) = true := by simp
  clear b0 x2 x3 hx hy
  go_enter Tryz.func44, Tryz.ntmps44
  have c20 := bxc X2.out 0 _ rfl
  have c21 := bxc X2.out 1 _ rfl
  have c22 := bxc X2.out 2 _ rfl
  have c23 := bxc X2.out 3 _ rfl
  have c24 := bxc X2.out 4 _ rfl
  have c25 := bxc X2.out 5 _ rfl
  have c26 := bxc X2.out 6 _ rfl
  have c27 := bxc X2.out 7 _ rfl
  have c28 := bxc X2.out 8 _ rfl
  have c29 := bxc X2.out 9 _ rfl
  have c210 := bxc X2.out 10 _ rfl
  have c211 := bxc X2.out 11 _ rfl
  have c212 := bxc X2.out 12 _ rfl
  have c213 := bxc X2.out 13 _ rfl
  have c30 := bxc X3.out 0 _ rfl
  have c31 := bxc X3.out 1 _ rfl
  have c32 := bxc X3.out 2 _ rfl
  have c33 := bxc X3.out 3 _ rfl
  have c34 := bxc X3.out 4 _ rfl
  have c35 := bxc X3.out 5 _ rfl
  have c36 := bxc X3.out 6 _ rfl
  have c37 := bxc X3.out 7 _ rfl
  have c38 := bxc X3.out 8 _ rfl
  have c39 := bxc X3.out 9 _ rfl
  have c310 := bxc X3.out 10 _ rfl
  have c311 := bxc X3.out 11 _ rfl
  have c312 := bxc X3.out 12 _ rfl
  have c313 := bxc X3.out 13 _ rfl
  have l2 := lt_of_block X2.out
  have l3 := lt_of_block X3.out
  go_wp2_with fail
  clear l2 l3 c20 c21 c22 c23 c24 c25 c26 c27 c28 c29 c210 c211 c212 c213 c30 c31 c32 c33 c34 c35 c36 c37 c38 c39 c310 c311 c312 c313
  generalize ((w.alloc (.cells #[.slice P g cg, .slice A n c, .slice Z m cm, .slice Y p cp, .int .i64 D.cost.a, .int .i64 D.cost.b, .int .i64 D.cost.c, .int .i64 D.cost.d, .int .i64 D.bud.a, .int .i64 D.bud.b, .int .i64 D.bud.c, .int .i64 D.bud.d, .int .i64 D.floor, .slice Q q cq] 44)).alloc (.cells #[.slice P1 g cg1, .slice A1 n c1, .slice Z1 m cm1, .slice Y1 p cp1, .int .i64 D.cost.a, .int .i64 D.cost.b, .int .i64 D.cost.c, .int .i64 D.cost.d, .int .i64 D.bud.a, .int .i64 D.bud.b, .int .i64 D.bud.c, .int .i64 D.bud.d, .int .i64 D.floor, .slice Q1 q cq1] 44)) = w0 at *
  refine (qInts_any P P1 _ _ _ _ D.par D.par _ HX.out.sur.p HY.out.sur.p).mono ?_
  rintro e w1 ⟨rfl, b1⟩
  rw [KP.out]
  replace HX := Lib.hid (HX.out.below b1)
  replace HY := Lib.hid (HY.out.below b1)
  replace X2 := Lib.hid (bxb X2.out b1)
  replace X3 := Lib.hid (bxb X3.out b1)
  replace HB := Lib.hid (HB.out.trans (b1.mono HB.out.size))
  clear b1
  have c20 := bxc X2.out 0 _ rfl
  have c21 := bxc X2.out 1 _ rfl
  have c22 := bxc X2.out 2 _ rfl
  have c23 := bxc X2.out 3 _ rfl
  have c24 := bxc X2.out 4 _ rfl
  have c25 := bxc X2.out 5 _ rfl
  have c26 := bxc X2.out 6 _ rfl
  have c27 := bxc X2.out 7 _ rfl
  have c28 := bxc X2.out 8 _ rfl
  have c29 := bxc X2.out 9 _ rfl
  have c210 := bxc X2.out 10 _ rfl
  have c211 := bxc X2.out 11 _ rfl
  have c212 := bxc X2.out 12 _ rfl
  have c213 := bxc X2.out 13 _ rfl
  have c30 := bxc X3.out 0 _ rfl
  have c31 := bxc X3.out 1 _ rfl
  have c32 := bxc X3.out 2 _ rfl
  have c33 := bxc X3.out 3 _ rfl
  have c34 := bxc X3.out 4 _ rfl
  have c35 := bxc X3.out 5 _ rfl
  have c36 := bxc X3.out 6 _ rfl
  have c37 := bxc X3.out 7 _ rfl
  have c38 := bxc X3.out 8 _ rfl
  have c39 := bxc X3.out 9 _ rfl
  have c310 := bxc X3.out 10 _ rfl
  have c311 := bxc X3.out 11 _ rfl
  have c312 := bxc X3.out 12 _ rfl
  have c313 := bxc X3.out 13 _ rfl
  have l2 := lt_of_block X2.out
  have l3 := lt_of_block X3.out
  go_wp2_with fail
  clear l2 l3 c20 c21 c22 c23 c24 c25 c26 c27 c28 c29 c210 c211 c212 c213 c30 c31 c32 c33 c34 c35 c36 c37 c38 c39 c310 c311 c312 c313
  refine (qSchema_any A A1 n c c1 D.vs _ HX.out.sur.s HY.out.sur.s).mono ?_
  rintro e w2 ⟨rfl, b2⟩
  replace HX := Lib.hid (HX.out.below b2)
  replace HY := Lib.hid (HY.out.below b2)
  replace X2 := Lib.hid (bxb X2.out b2)
  replace X3 := Lib.hid (bxb X3.out b2)
  replace HB := Lib.hid (HB.out.trans (b2.mono HB.out.size))
  clear b2
  have c20 := bxc X2.out 0 _ rfl
  have c21 := bxc X2.out 1 _ rfl
  have c22 := bxc X2.out 2 _ rfl
  have c23 := bxc X2.out 3 _ rfl
  have c24 := bxc X2.out 4 _ rfl
  have c25 := bxc X2.out 5 _ rfl
  have c26 := bxc X2.out 6 _ rfl
  have c27 := bxc X2.out 7 _ rfl
  have c28 := bxc X2.out 8 _ rfl
  have c29 := bxc X2.out 9 _ rfl
  have c210 := bxc X2.out 10 _ rfl
  have c211 := bxc X2.out 11 _ rfl
  have c212 := bxc X2.out 12 _ rfl
  have c213 := bxc X2.out 13 _ rfl
  have c30 := bxc X3.out 0 _ rfl
  have c31 := bxc X3.out 1 _ rfl
  have c32 := bxc X3.out 2 _ rfl
  have c33 := bxc X3.out 3 _ rfl
  have c34 := bxc X3.out 4 _ rfl
  have c35 := bxc X3.out 5 _ rfl
  have c36 := bxc X3.out 6 _ rfl
  have c37 := bxc X3.out 7 _ rfl
  have c38 := bxc X3.out 8 _ rfl
  have c39 := bxc X3.out 9 _ rfl
  have c310 := bxc X3.out 10 _ rfl
  have c311 := bxc X3.out 11 _ rfl
  have c312 := bxc X3.out 12 _ rfl
  have c313 := bxc X3.out 13 _ rfl
  have l2 := lt_of_block X2.out
  have l3 := lt_of_block X3.out
  go_wp2_with fail
  clear l2 l3 c20 c21 c22 c23 c24 c25 c26 c27 c28 c29 c210 c211 c212 c213 c30 c31 c32 c33 c34 c35 c36 c37 c38 c39 c310 c311 c312 c313
  refine (qData_any Z Z1 m cm cm1 D.rs _ HX.out.sur.d HY.out.sur.d).mono ?_
  rintro e w3 ⟨rfl, b3⟩
  replace HX := Lib.hid (HX.out.below b3)
  replace HY := Lib.hid (HY.out.below b3)
  replace X2 := Lib.hid (bxb X2.out b3)
  replace X3 := Lib.hid (bxb X3.out b3)
  replace HB := Lib.hid (HB.out.trans (b3.mono HB.out.size))
  clear b3
  have c20 := bxc X2.out 0 _ rfl
  have c21 := bxc X2.out 1 _ rfl
  have c22 := bxc X2.out 2 _ rfl
  have c23 := bxc X2.out 3 _ rfl
  have c24 := bxc X2.out 4 _ rfl
  have c25 := bxc X2.out 5 _ rfl
  have c26 := bxc X2.out 6 _ rfl
  have c27 := bxc X2.out 7 _ rfl
  have c28 := bxc X2.out 8 _ rfl
  have c29 := bxc X2.out 9 _ rfl
  have c210 := bxc X2.out 10 _ rfl
  have c211 := bxc X2.out 11 _ rfl
  have c212 := bxc X2.out 12 _ rfl
  have c213 := bxc X2.out 13 _ rfl
  have c30 := bxc X3.out 0 _ rfl
  have c31 := bxc X3.out 1 _ rfl
  have c32 := bxc X3.out 2 _ rfl
  have c33 := bxc X3.out 3 _ rfl
  have c34 := bxc X3.out 4 _ rfl
  have c35 := bxc X3.out 5 _ rfl
  have c36 := bxc X3.out 6 _ rfl
  have c37 := bxc X3.out 7 _ rfl
  have c38 := bxc X3.out 8 _ rfl
  have c39 := bxc X3.out 9 _ rfl
  have c310 := bxc X3.out 10 _ rfl
  have c311 := bxc X3.out 11 _ rfl
  have c312 := bxc X3.out 12 _ rfl
  have c313 := bxc X3.out 13 _ rfl
  have l2 := lt_of_block X2.out
  have l3 := lt_of_block X3.out
  go_wp2_with fail
  clear l2 l3 c20 c21 c22 c23 c24 c25 c26 c27 c28 c29 c210 c211 c212 c213 c30 c31 c32 c33 c34 c35 c36 c37 c38 c39 c310 c311 c312 c313
  refine (qTables_any Y Y1 p cp cp1 D.plan _ HX.out.plan HY.out.plan).mono ?_
  rintro e w4 ⟨rfl, b4⟩
  replace HX := Lib.hid (HX.out.below b4)
  replace HY := Lib.hid (HY.out.below b4)
  replace X2 := Lib.hid (bxb X2.out b4)
  replace X3 := Lib.hid (bxb X3.out b4)
  replace HB := Lib.hid (HB.out.trans (b4.mono HB.out.size))
  clear b4
  have c20 := bxc X2.out 0 _ rfl
  have c21 := bxc X2.out 1 _ rfl
  have c22 := bxc X2.out 2 _ rfl
  have c23 := bxc X2.out 3 _ rfl
  have c24 := bxc X2.out 4 _ rfl
  have c25 := bxc X2.out 5 _ rfl
  have c26 := bxc X2.out 6 _ rfl
  have c27 := bxc X2.out 7 _ rfl
  have c28 := bxc X2.out 8 _ rfl
  have c29 := bxc X2.out 9 _ rfl
  have c210 := bxc X2.out 10 _ rfl
  have c211 := bxc X2.out 11 _ rfl
  have c212 := bxc X2.out 12 _ rfl
  have c213 := bxc X2.out 13 _ rfl
  have c30 := bxc X3.out 0 _ rfl
  have c31 := bxc X3.out 1 _ rfl
  have c32 := bxc X3.out 2 _ rfl
  have c33 := bxc X3.out 3 _ rfl
  have c34 := bxc X3.out 4 _ rfl
  have c35 := bxc X3.out 5 _ rfl
  have c36 := bxc X3.out 6 _ rfl
  have c37 := bxc X3.out 7 _ rfl
  have c38 := bxc X3.out 8 _ rfl
  have c39 := bxc X3.out 9 _ rfl
  have c310 := bxc X3.out 10 _ rfl
  have c311 := bxc X3.out 11 _ rfl
  have c312 := bxc X3.out 12 _ rfl
  have c313 := bxc X3.out 13 _ rfl
  have l2 := lt_of_block X2.out
  have l3 := lt_of_block X3.out
  go_wp2_with fail
  clear l2 l3 c20 c21 c22 c23 c24 c25 c26 c27 c28 c29 c210 c211 c212 c213 c30 c31 c32 c33 c34 c35 c36 c37 c38 c39 c310 c311 c312 c313
  refine (qTables_any Q Q1 q cq cq1 D.asked _ HX.out.asked HY.out.asked).mono ?_
  rintro e w5 ⟨rfl, b5⟩
  replace HX := Lib.hid (HX.out.below b5)
  replace HY := Lib.hid (HY.out.below b5)
  replace X2 := Lib.hid (bxb X2.out b5)
  replace X3 := Lib.hid (bxb X3.out b5)
  replace HB := Lib.hid (HB.out.trans (b5.mono HB.out.size))
  clear b5
  go_wp2
  go_ret
  exact ⟨rfl, HB.out⟩
end

section
open Go.RowKit

theorem svR_lens {w : World} {P A Z Y Q : Option Addr} {g n c m p cp q cq : Nat} {D : SvD} (h : SvR w P A Z Y Q g n c m p cp q cq D) : D.par.length = g ∧ D.vs.length = n ∧ D.rs.length = m ∧ D.plan.length = p ∧ D.asked.length = q :=
  ⟨h.sur.p.i.1, h.sur.s.v.1, h.sur.d.r.1, h.plan.len, h.asked.len⟩
/-- What a second query answers. -/
theorem svs_two {D : SvD} {t : TabD} (h : svB D = true) : svB (aD D t) = true ∧ (¬ aK D t = 0 → aK (aD D t) t = aK D t ∧ aC D t = []) ∧ (aK D t = 0 → aK (aD D t) t = 0 ∧ aD (aD D t) t = aD D t ∧ aC (aD D t) t = aC D t ∧ aC D t = D.tbl t ∧ tabB D.par D.vs t = true) := by
  have e1 : aD D t = askD D t := if_pos h
  have e2 : aK D t = codeV D D.asked t := if_pos h
  have e3 : aC D t = cellsA D t := if_pos h
  have h1 := askD_sv h t
  have f1 : aD (askD D t) t = askD (askD D t) t := if_pos h1
  have f2 : aK (askD D t) t = codeV (askD D t) (askD D t).asked t := if_pos h1
  have f3 : aC (askD D t) t = cellsA (askD D t) t := if_pos h1
  rw [e1, e2, e3, f1, f2, f3]
  refine ⟨h1, fun hk => ?_, fun hk => ?_⟩
  · rw [ask_refused hk]
    exact ⟨rfl, cells_1 hk⟩
  · have h2 := ask_again hk
    refine ⟨h2.1, h2.2, ?_, cells_2 hk, code0_tab hk⟩
    rw [cells_2 h2.1, cells_2 hk]; rfl

def isIf (t : Nat) : Code → Bool
  | .cond (.tmp k) _ _ => k == t
  | .seq _ c => isIf t c
  | _ => false
/-- What follows the 'if' whose test lies in the slot t. -/
def behindIf (t : Nat) : Code → Code
  | .seq a b => match isIf t a with
    | true => b
    | false => behindIf t b
  | .block _ c => behindIf t c
  | .scope c => behindIf t c
  | c => c

set_option maxRecDepth 100000 in
set_option maxHeartbeats 4000000 in
theorem servers_rest (w wc : World) (P A Z Y Q P3 A3 Z3 Y3 Q3 RB3 V U : Option Addr) (g cg n c m cm p cp q cq g3 cg3 n3 c3 m3 cm3 p3 cp3 q3 cq3 nb3 cb3 tm td tk te : Nat) (D E : SvD) (t : TabD) (gx gy : Nat) (KK : Int) (OK : Bool) (KC : List Int) (s0 s1 s2 s3 s4 s11 s12 s13 s14 s15 s16 s17 s18 s19 s20 s21 s22 s23 s24 s25 s26 s27 s28 s29 s30 s31 s32 s33 s34 s35 s36 s37 s38 s39 s40 s41 s42 s43 s44 s45 s46 s47 s48 s49 s50 s51 s52 s53 s54 s55 s56 s57 s58 s59 s60 s61 s62 s63 s64 s65 s66 s67 s68 s69 s70 s71 s72 s73 s74 s75 s76 s77 s78 s79 s80 s81 s82 s83 s84 s85 s86 s87 s88 s89 s90 s91 s92 s93 s94 s95 s96 s97 s98 s99 s100 s101 s102 s103 s104 s105 s106 s107 s108 s109 s110 s111 s112 s113 s114 s115 s116 s117 s118 s119 s120 s121 s122 s123 s124 s125 s126 s127 s128 s129 s130 s131 s132 s133 s134 s135 s136 s137 s138 s139 s140 s141 s142 s143 s144 s145 s146 s147 s148 s149 s150 s151 s152 s153 s154 s155 s156 s157 s158 s159 s160 s161 s162 s163 s164 s165 s166 s167 s168 s169 s170 s171 s172 s173 s174 s175 s176 s177 s178 s179 s180 s181 s182 s183 s184 s185 s186 s187 s188 s189 s190 s191 s192 s193 s194 s195 s196 s197 s198 s199 s200 s201 s202 s203 s204 s205 : Value) (B0 : Below w.heap.size w wc)
    (hX : SvR wc P A Z Y Q g n c m p cp q cq D) (hT : TabR wc V tm U tk t) (hY : SvR wc P3 A3 Z3 Y3 Q3 g3 n3 c3 m3 p3 cp3 q3 cq3 E) (hC : IntR wc RB3 nb3 KC) (xx : wc.heap[gx]? = some (.cells #[.slice P g cg, .slice A n c, .slice Z m cm, .slice Y p cp, .int .i64 D.cost.a, .int .i64 D.cost.b, .int .i64 D.cost.c, .int .i64 D.cost.d, .int .i64 D.bud.a, .int .i64 D.bud.b, .int .i64 D.bud.c, .int .i64 D.bud.d, .int .i64 D.floor, .slice Q q cq] 44 (0, 0))) (xt : wc.heap[gx + 1]? = some (.cells #[.int .i64 t.lv, .slice V tm td, .slice U tk te, .int .i64 t.sum] 56 (0, 0))) (xy : wc.heap[gy]? = some (.cells #[.slice P3 g3 cg3, .slice A3 n3 c3, .slice Z3 m3 cm3, .slice Y3 p3 cp3, .int .i64 E.cost.a, .int .i64 E.cost.b, .int .i64 E.cost.c, .int .i64 E.cost.d, .int .i64 E.bud.a, .int .i64 E.bud.b, .int .i64 E.bud.c, .int .i64 E.bud.d, .int .i64 E.floor, .slice Q3 q3 cq3] 44 (0, 0)))
    (HOK_ : svB D = OK) (HKK_ : aK D t = KK) (HKC_ : aC D t = KC) (HhE_ : E = aD D t) (hq : q ≤ 100) :
    Code.wp Tryz.prog (behindIf 121 (Tryz.f9.body.getD .skip)) (bodyPost Tryz.prog Tryz.f9 fun e w' => e = .returned (.bool true) ∧ Below w.heap.size w w') ⟨#[s0, s1, s2, s3, s4, .pointer (some ⟨gx, 0, none⟩), .pointer (some ⟨gx + 1, 0, none⟩), .pointer (some ⟨gy, 0, none⟩), .slice RB3 nb3 cb3, .int .i64 KK, .bool OK, s11, s12, s13, s14, s15, s16, s17, s18, s19, s20, s21, s22, s23, s24, s25, s26, s27, s28, s29, s30, s31, s32, s33, s34, s35, s36, s37, s38, s39, s40, s41, s42, s43, s44, s45, s46, s47, s48, s49, s50, s51, s52, s53, s54, s55, s56, s57, s58, s59, s60, s61, s62, s63, s64, s65, s66, s67, s68, s69, s70, s71, s72, s73, s74, s75, s76, s77, s78, s79, s80, s81, s82, s83, s84, s85, s86, s87, s88, s89, s90, s91, s92, s93, s94, s95, s96, s97, s98, s99, s100, s101, s102, s103, s104, s105, s106, s107, s108, s109, s110, s111, s112, s113, s114, s115, s116, s117, s118, s119, s120, s121, s122, s123, s124, s125, s126, s127, s128, s129, s130, s131, s132, s133, s134, s135, s136, s137, s138, s139, s140, s141, s142, s143, s144, s145, s146, s147, s148, s149, s150, s151, s152, s153, s154, s155, s156, s157, s158, s159, s160, s161, s162, s163, s164, s165, s166, s167, s168, s169, s170, s171, s172, s173, s174, s175, s176, s177, s178, s179, s180, s181, s182, s183, s184, s185, s186, s187, s188, s189, s190, s191, s192, s193, s194, s195, s196, s197, s198, s199, s200, s201, s202, s203, s204, s205], []⟩ wc := by
  have kq : (KC == KC) = true := by simp
  have HOK := Lib.hid HOK_
  have HKK := Lib.hid HKK_
  have HKC := Lib.hid HKC_
  have HhE := Lib.hid HhE_
  clear HOK_ HKK_ HKC_ HhE_
  conv => arg 2; whnf
  cases OK
  · go_wp2
    go_ret
    exact ⟨rfl, B0⟩
  · have T2 := svs_two (D := D) (t := t) HOK.out
    rw [← HhE.out, HKK.out, HKC.out] at T2
    have hq3 : q3 ≤ 101 := by have h1 := asked_le D t; have h2 := (svR_lens hY).2.2.2.2; rw [HhE.out, show aD D t = askD D t from if_pos HOK.out] at h2; have h3 := (svR_lens hX).2.2.2.2; have h4 : (askD D t).asked.length = (askedV D t).length := rfl; omega
    have HsE := Lib.hid T2.1
    have HT2 := Lib.hid T2.2
    clear T2
    obtain ⟨x0, hx0, hl0, hi0⟩ := sv_loss HsE.out
    have hle : losE (some x0) = .returned (.tuple #[.agg #[.int .i64 x0.a, .int .i64 x0.b, .int .i64 x0.c, .int .i64 x0.d], .bool true]) := rfl
    have Hx0 := Lib.hid hx0
    have Hi0 := Lib.hid hi0
    have Hle := Lib.hid hle
    clear hx0 hi0 hle
    have cy0 := bxc xy 0 _ rfl
    have cy1 := bxc xy 1 _ rfl
    have cy2 := bxc xy 2 _ rfl
    have cy3 := bxc xy 3 _ rfl
    have cy4 := bxc xy 4 _ rfl
    have cy5 := bxc xy 5 _ rfl
    have cy6 := bxc xy 6 _ rfl
    have cy7 := bxc xy 7 _ rfl
    have cy8 := bxc xy 8 _ rfl
    have cy9 := bxc xy 9 _ rfl
    have cy10 := bxc xy 10 _ rfl
    have cy11 := bxc xy 11 _ rfl
    have cy12 := bxc xy 12 _ rfl
    have cy13 := bxc xy 13 _ rfl
    have ly := lt_of_block xy
    go_wp2_with fail
    clear cy0 cy1 cy2 cy3 cy4 cy5 cy6 cy7 cy8 cy9 cy10 cy11 cy12 cy13 ly
    have K1 := implAnsweredLoss_law P3 A3 Z3 Y3 Q3 g3 cg3 n3 c3 m3 cm3 p3 cp3 q3 cq3 E wc hY
    rw [Hx0.out, Hle.out] at K1
    refine K1.mono ?_
    clear K1
    rintro e w1 ⟨rfl, b1⟩
    have B1 := B0.trans (b1.mono B0.size)
    replace xx := bxb xx b1
    replace xt := bxb xt b1
    replace xy := bxb xy b1
    replace hX := hX.below b1
    replace hT := hT.below b1
    replace hY := hY.below b1
    replace hC := hC.below b1
    have S1 := b1.size
    clear b1 B0
    clear Hle Hx0
    have b2 := below_new w1 (.cells #[.int .i64 x0.a, .int .i64 x0.b, .int .i64 x0.c, .int .i64 x0.d] 42)
    have xa := box_new w1 #[.int .i64 x0.a, .int .i64 x0.b, .int .i64 x0.c, .int .i64 x0.d] 42
    obtain ⟨ga, hga⟩ : ∃ g, w1.heap.size = g := ⟨_, rfl⟩
    have ey0 := bxc (bxb xy b2) 0 _ rfl
    have ey1 := bxc (bxb xy b2) 1 _ rfl
    have ey2 := bxc (bxb xy b2) 2 _ rfl
    have ey3 := bxc (bxb xy b2) 3 _ rfl
    have ey4 := bxc (bxb xy b2) 4 _ rfl
    have ey5 := bxc (bxb xy b2) 5 _ rfl
    have ey6 := bxc (bxb xy b2) 6 _ rfl
    have ey7 := bxc (bxb xy b2) 7 _ rfl
    have ey8 := bxc (bxb xy b2) 8 _ rfl
    have ey9 := bxc (bxb xy b2) 9 _ rfl
    have ey10 := bxc (bxb xy b2) 10 _ rfl
    have ey11 := bxc (bxb xy b2) 11 _ rfl
    have ey12 := bxc (bxb xy b2) 12 _ rfl
    have ey13 := bxc (bxb xy b2) 13 _ rfl
    have ea0 := bxc xa 0 _ rfl
    have ea1 := bxc xa 1 _ rfl
    have ea2 := bxc xa 2 _ rfl
    have ea3 := bxc xa 3 _ rfl
    have ly := lt_of_block xy
    go_wp2_with fail
    clear ey0 ey1 ey2 ey3 ey4 ey5 ey6 ey7 ey8 ey9 ey10 ey11 ey12 ey13 ea0 ea1 ea2 ea3 ly
    generalize w1.alloc (.cells #[.int .i64 x0.a, .int .i64 x0.b, .int .i64 x0.c, .int .i64 x0.d] 42) = w2 at *
    have B2 := B1.trans (b2.mono B1.size)
    replace xx := bxb xx b2
    replace xt := bxb xt b2
    replace xy := bxb xy b2
    replace hX := hX.below b2
    replace hT := hT.below b2
    replace hY := hY.below b2
    replace hC := hC.below b2
    have S2 := b2.size
    clear b2 B1
    rw [hga] at xa
    try rw [hga]
    clear hga
    have K3 := IsWithin_any E.bud x0 w2 (svB_parts HsE.out).2.2.2.2.1 hl0
    refine K3.mono ?_
    clear K3
    rintro e w3 ⟨rfl, b3⟩
    rw [Hi0.out]
    have B3 := B2.trans (b3.mono B2.size)
    replace xx := bxb xx b3
    replace xt := bxb xt b3
    replace xy := bxb xy b3
    replace xa := bxb xa b3
    replace hX := hX.below b3
    replace hT := hT.below b3
    replace hY := hY.below b3
    replace hC := hC.below b3
    have S3 := b3.size
    clear b3 B2
    clear xa
    have cy0 := bxc xy 0 _ rfl
    have cy1 := bxc xy 1 _ rfl
    have cy2 := bxc xy 2 _ rfl
    have cy3 := bxc xy 3 _ rfl
    have cy4 := bxc xy 4 _ rfl
    have cy5 := bxc xy 5 _ rfl
    have cy6 := bxc xy 6 _ rfl
    have cy7 := bxc xy 7 _ rfl
    have cy8 := bxc xy 8 _ rfl
    have cy9 := bxc xy 9 _ rfl
    have cy10 := bxc xy 10 _ rfl
    have cy11 := bxc xy 11 _ rfl
    have cy12 := bxc xy 12 _ rfl
    have cy13 := bxc xy 13 _ rfl
    have ly := lt_of_block xy
    go_wp2_with fail
    clear cy0 cy1 cy2 cy3 cy4 cy5 cy6 cy7 cy8 cy9 cy10 cy11 cy12 cy13 ly
    have K4 := IsServer_any P3 A3 Z3 Y3 Q3 g3 cg3 n3 c3 m3 cm3 p3 cp3 q3 cq3 E w3 hY.hcp hY.hcq hY.sur hY.plan hY.asked
    refine K4.mono ?_
    clear K4
    rintro e w4 ⟨rfl, b4⟩
    rw [HsE.out]
    have B4 := B3.trans (b4.mono B3.size)
    replace xx := bxb xx b4
    replace xt := bxb xt b4
    replace xy := bxb xy b4
    replace hX := hX.below b4
    replace hT := hT.below b4
    replace hY := hY.below b4
    replace hC := hC.below b4
    have S4 := b4.size
    clear b4 B3
    have ct0 := bxc xt 0 _ rfl
    have ct1 := bxc xt 1 _ rfl
    have ct2 := bxc xt 2 _ rfl
    have ct3 := bxc xt 3 _ rfl
    have lt := lt_of_block xt
    have cy0 := bxc xy 0 _ rfl
    have cy1 := bxc xy 1 _ rfl
    have cy2 := bxc xy 2 _ rfl
    have cy3 := bxc xy 3 _ rfl
    have cy4 := bxc xy 4 _ rfl
    have cy5 := bxc xy 5 _ rfl
    have cy6 := bxc xy 6 _ rfl
    have cy7 := bxc xy 7 _ rfl
    have cy8 := bxc xy 8 _ rfl
    have cy9 := bxc xy 9 _ rfl
    have cy10 := bxc xy 10 _ rfl
    have cy11 := bxc xy 11 _ rfl
    have cy12 := bxc xy 12 _ rfl
    have cy13 := bxc xy 13 _ rfl
    have ly := lt_of_block xy
    go_wp2_with fail
    clear ct0 ct1 ct2 ct3 lt cy0 cy1 cy2 cy3 cy4 cy5 cy6 cy7 cy8 cy9 cy10 cy11 cy12 cy13 ly
    by_cases hk : KK = 0
    · subst hk
      obtain ⟨t1, t2, t3, t4, t5⟩ := HT2.out.2 rfl
      have Ht1 := Lib.hid t1
      have Ht2 := Lib.hid t2
      have Ht3 := Lib.hid t3
      have Ht4 := Lib.hid t4
      have Ht5 := Lib.hid t5
      clear t1 t2 t3 t4 t5 HT2
      have K5 := implAskTable_any P3 A3 Z3 Y3 Q3 V U g3 cg3 n3 c3 m3 cm3 p3 cp3 q3 cq3 tm td tk te E t w4 hY hT (by omega)
      refine K5.mono ?_
      clear K5
      rintro e w5 ⟨P8, A8, Z8, Y8, Q8, RB8, g8, cg8, n8, c8, m8, cm8, p8, cp8, q8, cq8, nb8, cb8, E8, hE8, rfl, hY8, hC8, b5⟩
      rw [Ht1.out, HsE.out]
      have HhE8 := Lib.hid hE8
      clear hE8
      have B5 := B4.trans (b5.mono B4.size)
      replace xx := bxb xx b5
      replace xt := bxb xt b5
      replace xy := bxb xy b5
      replace hX := hX.below b5
      replace hT := hT.below b5
      replace hY := hY.below b5
      replace hC := hC.below b5
      have S5 := b5.size
      clear b5 B4
      rw [Ht3.out] at hC8
      obtain rfl : E = E8 := (HhE8.out.trans Ht2.out).symm
      obtain ⟨l1, l2, l3, l4, l5⟩ := svR_lens hY
      obtain ⟨k1, k2, k3, k4, k5⟩ := svR_lens hY8
      obtain rfl : g3 = g8 := l1.symm.trans k1
      obtain rfl : n3 = n8 := l2.symm.trans k2
      obtain rfl : m3 = m8 := l3.symm.trans k3
      obtain rfl : p3 = p8 := l4.symm.trans k4
      obtain rfl : q3 = q8 := l5.symm.trans k5
      clear l1 l2 l3 l4 l5 k1 k2 k3 k4 k5
      have b6 := below_new w5 (.cells #[.slice P8 g3 cg8, .slice A8 n3 c8, .slice Z8 m3 cm8, .slice Y8 p3 cp8, .int .i64 E.cost.a, .int .i64 E.cost.b, .int .i64 E.cost.c, .int .i64 E.cost.d, .int .i64 E.bud.a, .int .i64 E.bud.b, .int .i64 E.bud.c, .int .i64 E.bud.d, .int .i64 E.floor, .slice Q8 q3 cq8] 44)
      have xg := box_new w5 #[.slice P8 g3 cg8, .slice A8 n3 c8, .slice Z8 m3 cm8, .slice Y8 p3 cp8, .int .i64 E.cost.a, .int .i64 E.cost.b, .int .i64 E.cost.c, .int .i64 E.cost.d, .int .i64 E.bud.a, .int .i64 E.bud.b, .int .i64 E.bud.c, .int .i64 E.bud.d, .int .i64 E.floor, .slice Q8 q3 cq8] 44
      obtain ⟨gg, hgg⟩ : ∃ g, w5.heap.size = g := ⟨_, rfl⟩
      have ex0 := bxc (bxb xx b6) 0 _ rfl
      have ex1 := bxc (bxb xx b6) 1 _ rfl
      have ex2 := bxc (bxb xx b6) 2 _ rfl
      have ex3 := bxc (bxb xx b6) 3 _ rfl
      have ex4 := bxc (bxb xx b6) 4 _ rfl
      have ex5 := bxc (bxb xx b6) 5 _ rfl
      have ex6 := bxc (bxb xx b6) 6 _ rfl
      have ex7 := bxc (bxb xx b6) 7 _ rfl
      have ex8 := bxc (bxb xx b6) 8 _ rfl
      have ex9 := bxc (bxb xx b6) 9 _ rfl
      have ex10 := bxc (bxb xx b6) 10 _ rfl
      have ex11 := bxc (bxb xx b6) 11 _ rfl
      have ex12 := bxc (bxb xx b6) 12 _ rfl
      have ex13 := bxc (bxb xx b6) 13 _ rfl
      have et0 := bxc (bxb xt b6) 0 _ rfl
      have et1 := bxc (bxb xt b6) 1 _ rfl
      have et2 := bxc (bxb xt b6) 2 _ rfl
      have et3 := bxc (bxb xt b6) 3 _ rfl
      have lx := lt_of_block xx
      have lt := lt_of_block xt
      go_wp2_with fail
      clear ex0 ex1 ex2 ex3 ex4 ex5 ex6 ex7 ex8 ex9 ex10 ex11 ex12 ex13 et0 et1 et2 et3 lx lt
      generalize w5.alloc (.cells #[.slice P8 g3 cg8, .slice A8 n3 c8, .slice Z8 m3 cm8, .slice Y8 p3 cp8, .int .i64 E.cost.a, .int .i64 E.cost.b, .int .i64 E.cost.c, .int .i64 E.cost.d, .int .i64 E.bud.a, .int .i64 E.bud.b, .int .i64 E.bud.c, .int .i64 E.bud.d, .int .i64 E.floor, .slice Q8 q3 cq8] 44) = w6 at *
      have B6 := B5.trans (b6.mono B5.size)
      replace xx := bxb xx b6
      replace xt := bxb xt b6
      replace xy := bxb xy b6
      replace hX := hX.below b6
      replace hT := hT.below b6
      replace hY := hY.below b6
      replace hC := hC.below b6
      replace hY8 := hY8.below b6
      replace hC8 := hC8.below b6
      have S6 := b6.size
      clear b6 B5
      rw [hgg] at xg
      try rw [hgg]
      clear hgg
      have KT := implTableOf_any P A Z V U g cg n c m cm tm td tk te D t w6 (sv_ok HOK.out) Ht5.out hX.sur hT
      rw [← Ht4.out] at KT
      generalize (cntV D.par D.vs t).toNat = nt at *
      refine KT.mono ?_
      clear KT
      rintro e w7 ⟨A9, c9, rfl, o9, b7⟩
      have h9 := o9.intR
      clear o9
      have B7 := B6.trans (b7.mono B6.size)
      replace xx := bxb xx b7
      replace xt := bxb xt b7
      replace xy := bxb xy b7
      replace xg := bxb xg b7
      replace hX := hX.below b7
      replace hT := hT.below b7
      replace hY := hY.below b7
      replace hC := hC.below b7
      replace hY8 := hY8.below b7
      replace hC8 := hC8.below b7
      have S7 := b7.size
      clear b7 B6
      have kz : ((0 : Int) == 0) = true := rfl
      have cy0 := bxc xy 0 _ rfl
      have cy1 := bxc xy 1 _ rfl
      have cy2 := bxc xy 2 _ rfl
      have cy3 := bxc xy 3 _ rfl
      have cy4 := bxc xy 4 _ rfl
      have cy5 := bxc xy 5 _ rfl
      have cy6 := bxc xy 6 _ rfl
      have cy7 := bxc xy 7 _ rfl
      have cy8 := bxc xy 8 _ rfl
      have cy9 := bxc xy 9 _ rfl
      have cy10 := bxc xy 10 _ rfl
      have cy11 := bxc xy 11 _ rfl
      have cy12 := bxc xy 12 _ rfl
      have cy13 := bxc xy 13 _ rfl
      have ly := lt_of_block xy
      have cg0 := bxc xg 0 _ rfl
      have cg1 := bxc xg 1 _ rfl
      have cg2 := bxc xg 2 _ rfl
      have cg3 := bxc xg 3 _ rfl
      have cg4 := bxc xg 4 _ rfl
      have cg5 := bxc xg 5 _ rfl
      have cg6 := bxc xg 6 _ rfl
      have cg7 := bxc xg 7 _ rfl
      have cg8 := bxc xg 8 _ rfl
      have cg9 := bxc xg 9 _ rfl
      have cg10 := bxc xg 10 _ rfl
      have cg11 := bxc xg 11 _ rfl
      have cg12 := bxc xg 12 _ rfl
      have cg13 := bxc xg 13 _ rfl
      have lg := lt_of_block xg
      go_wp2_with fail
      clear cy0 cy1 cy2 cy3 cy4 cy5 cy6 cy7 cy8 cy9 cy10 cy11 cy12 cy13 ly cg0 cg1 cg2 cg3 cg4 cg5 cg6 cg7 cg8 cg9 cg10 cg11 cg12 cg13 lg
      have K8 := qServer_any P8 A8 Z8 Y8 Q8 P3 A3 Z3 Y3 Q3 g3 cg8 n3 c8 m3 cm8 p3 cp8 q3 cq8 cg3 c3 cm3 cp3 cq3 E w7 hY8 hY
      refine K8.mono ?_
      clear K8
      rintro e w8 ⟨rfl, b8⟩
      have B8 := B7.trans (b8.mono B7.size)
      replace xx := bxb xx b8
      replace xt := bxb xt b8
      replace xy := bxb xy b8
      replace xg := bxb xg b8
      replace hX := hX.below b8
      replace hT := hT.below b8
      replace hY := hY.below b8
      replace hC := hC.below b8
      replace hY8 := hY8.below b8
      replace hC8 := hC8.below b8
      replace h9 := h9.below b8
      have S8 := b8.size
      clear b8 B7
      clear xg xy
      go_wp2_with fail
      have K9 := qInts_any RB8 RB3 nb8 cb8 nb3 cb3 KC KC w8 hC8 hC
      refine K9.mono ?_
      clear K9
      rintro e w9 ⟨rfl, b9⟩
      rw [kq]
      have B9 := B8.trans (b9.mono B8.size)
      replace xx := bxb xx b9
      replace xt := bxb xt b9
      replace hX := hX.below b9
      replace hT := hT.below b9
      replace hY := hY.below b9
      replace hC := hC.below b9
      replace hY8 := hY8.below b9
      replace hC8 := hC8.below b9
      replace h9 := h9.below b9
      have S9 := b9.size
      clear b9 B8
      go_wp2_with fail
      have K10 := qInts_any A9 RB3 nt c9 nb3 cb3 KC KC w9 h9 hC
      refine K10.mono ?_
      clear K10
      rintro e w10 ⟨rfl, b10⟩
      rw [kq]
      have B10 := B9.trans (b10.mono B9.size)
      replace xx := bxb xx b10
      replace xt := bxb xt b10
      replace hX := hX.below b10
      replace hT := hT.below b10
      replace hY := hY.below b10
      replace hC := hC.below b10
      replace hY8 := hY8.below b10
      replace hC8 := hC8.below b10
      replace h9 := h9.below b10
      have S10 := b10.size
      clear b10 B9
      go_wp2
      go_ret
      exact ⟨rfl, B10⟩
    · obtain ⟨t1, t2⟩ := HT2.out.1 hk
      have kz : (KK != 0) = true := by simpa using hk
      have ke : (KK == KK) = true := by simp
      have nz : nb3 = 0 := by have h := hC.i.1; rw [t2] at h; exact h.symm
      subst nz
      have Ht1 := Lib.hid t1
      clear t1 t2 HT2 hk
      have K5 := implAskTable_any P3 A3 Z3 Y3 Q3 V U g3 cg3 n3 c3 m3 cm3 p3 cp3 q3 cq3 tm td tk te E t w4 hY hT (by omega)
      refine K5.mono ?_
      clear K5
      rintro e w5 ⟨P8, A8, Z8, Y8, Q8, RB8, g8, cg8, n8, c8, m8, cm8, p8, cp8, q8, cq8, nb8, cb8, E8, hE8, rfl, hY8, hC8, b5⟩
      rw [Ht1.out, HsE.out]
      have HhE8 := Lib.hid hE8
      clear hE8
      have B5 := B4.trans (b5.mono B4.size)
      replace xx := bxb xx b5
      replace xt := bxb xt b5
      replace xy := bxb xy b5
      replace hX := hX.below b5
      replace hT := hT.below b5
      replace hY := hY.below b5
      replace hC := hC.below b5
      have S5 := b5.size
      clear b5 B4
      have bz := B5.trans ((below_new w5 (.cells #[.slice P8 g8 cg8, .slice A8 n8 c8, .slice Z8 m8 cm8, .slice Y8 p8 cp8, .int .i64 E8.cost.a, .int .i64 E8.cost.b, .int .i64 E8.cost.c, .int .i64 E8.cost.d, .int .i64 E8.bud.a, .int .i64 E8.bud.b, .int .i64 E8.bud.c, .int .i64 E8.bud.d, .int .i64 E8.floor, .slice Q8 q8 cq8] 44)).mono B5.size)
      clear hX hT hY hC hY8 hC8 xx xt xy
      go_wp2
      go_ret
      exact ⟨rfl, bz⟩
end
end Go.Proofs.YtfanpbfmnckmnaaGreat
