/- Drawn servers: what follows the loop of server; printed by gdy.py. -/
import Derived.Test.YtfanpbfmnckmnaaGreatYu
import Derived.Deep.CutBlock
namespace Go.Proofs.YtfanpbfmnckmnaaGreat
open Go.RowKit

/-- Whether a loop lies in it. -/
def hasLoop : Code → Bool
  | .loop _ => true
  | .seq a b => hasLoop a || hasLoop b
  | .block _ c => hasLoop c
  | .scope c => hasLoop c
  | .cond _ a b => hasLoop a || hasLoop b
  | _ => false
/-- What follows the first loop. -/
def behindLoop : Code → Code
  | .seq a b => match hasLoop a with
    | true => b
    | false => behindLoop b
  | .block _ c => behindLoop c
  | .scope c => behindLoop c
  | c => c

set_option maxRecDepth 100000 in
set_option maxHeartbeats 16000000 in
theorem server_rest (g L b : Nat) (w wc : World) (P A Z : Option Addr) (pn pc n c m cz : Nat) (ps : List Int) (vs : List (ByteArray × Int)) (Y : Option Addr) (p cp : Nat) (ts : List TabD) (Q : Option Addr) (q cq : Nat) (us : List TabD) (x y : LosD) (fl : Int) (s1 s4 s5 s6 s7 s8 s9 s10 s11 s12 s13 s14 s15 s16 s17 s18 s19 s20 s21 s22 s23 s24 s25 s26 s27 s28 s29 s30 s31 s32 s33 s34 s35 s36 s37 s38 s39 s40 s41 s42 s43 s44 s45 s46 s47 s48 s49 s50 s51 s52 s53 s54 s55 s56 s57 s58 s59 s60 s61 s62 s63 s64 s65 s66 s67 s68 : Value) (hL : L ≤ 90000) (hlt : g < w.heap.size) (hp8 : p ≤ 8) (hS : SvU w wc g (L + 950) b w.heap.size P A Z pn pc n c m cz ps vs Y p cp ts Q q cq us x y fl) :
    Code.wp Tryz.prog (behindLoop (Tryz.f95.body.getD .skip)) (bodyPost Tryz.prog Tryz.f95 (DSv g (L + 1000) w)) ⟨#[.pointer (some ⟨g, 0, none⟩), s1, .pointer (some ⟨w.heap.size, 0, none⟩), .pointer (some ⟨b, 0, none⟩), s4, s5, s6, s7, s8, s9, s10, s11, s12, s13, s14, s15, s16, s17, s18, s19, s20, s21, s22, s23, s24, s25, s26, s27, s28, s29, s30, s31, s32, s33, s34, s35, s36, s37, s38, s39, s40, s41, s42, s43, s44, s45, s46, s47, s48, s49, s50, s51, s52, s53, s54, s55, s56, s57, s58, s59, s60, s61, s62, s63, s64, s65, s66, s67, s68], []⟩ wc := by
  obtain ⟨i0, hi, hz0, hz1, hz2⟩ := info_parts Tryz.infoTable
  conv => arg 2; whnf
  go_wp2_with fail
  refine (pick_any g _ 24 _ hS.st.cu (by omega) (by omega)).mono ?_
  rintro e w5 ⟨v, rfl, v0, v1, hc5, hg5⟩
  have S5 := Lib.hid (hS.chg hc5 hg5)
  clear hS hc5 hg5 v0 v1
  have S6 := Lib.hid S5.out.toF
  have hq30 := S5.out.haq
  clear S5
  by_cases t0 : v = 0
  · subst t0
    have b6 := below_new w5 (.cells #[.int .i64 (-1), .int .i64 40, .int .i64 41] 3)
    have S7 := Lib.hid (S6.out.below b6)
    have hc7 := S7.out.cu
    have o7 := own_lit [-1, 40, 41] (box_new w5 _ _) (by decide)
    have z7 : w.heap.size ≤ w5.heap.size := S6.out.ch.size
    clear S6 b6
    go_wp2_with fail
    change OwnI (w5.alloc (.cells #[.int .i64 (-1), .int .i64 40, .int .i64 41] 3)) _ _ _ _ _ _ at o7
    generalize w5.alloc (.cells #[.int .i64 (-1), .int .i64 40, .int .i64 41] 3) = w7 at *
    refine (amongM_any g _ _ _ _ _ _ [-1, 40, 41] _ hc7 (by omega) o7 (by omega) (by decide) (by decide)).mono ?_
    rintro e w8 ⟨y1, rfl, _, hc8, hg8⟩
    have S8 := Lib.hid (S7.out.chg hc8 hg8)
    have S9 := Lib.hid (show SvF w (w8.setCell ⟨b, 12, none⟩ (.int .i64 y1)) g _ b w.heap.size P A Z pn pc n c m cz ps vs Y p cp ts Q q cq us x y y1 from S8.out.put [(12, .int .i64 y1)] rfl)
    have k12 := bxc S8.out.bx 12 _ rfl
    have f12 := bxf S8.out.bx 12
    have lb8 := lt_of_block S8.out.bx
    clear S7 hc7 o7 hc8 hg8
    have bb := S9.out.bx
    have rr := S9.out.rx
    have lr9 := lt_of_block rr
    have i0 := bxc bb 0 (.slice P pn pc) rfl; have p0 := bxc rr 0 _ rfl; have g0 := bxf rr 0
    have i1 := bxc bb 1 (.slice A n c) rfl; have p1 := bxc rr 1 _ rfl; have g1 := bxf rr 1
    have i2 := bxc bb 2 (.slice Z m cz) rfl; have p2 := bxc rr 2 _ rfl; have g2 := bxf rr 2
    have i3 := bxc bb 3 (.slice Y p cp) rfl; have p3 := bxc rr 3 _ rfl; have g3 := bxf rr 3
    have i4 := bxc bb 4 (.int .i64 x.a) rfl; have p4 := bxc rr 4 _ rfl; have g4 := bxf rr 4
    have i5 := bxc bb 5 (.int .i64 x.b) rfl; have p5 := bxc rr 5 _ rfl; have g5 := bxf rr 5
    have i6 := bxc bb 6 (.int .i64 x.c) rfl; have p6 := bxc rr 6 _ rfl; have g6 := bxf rr 6
    have i7 := bxc bb 7 (.int .i64 x.d) rfl; have p7 := bxc rr 7 _ rfl; have g7 := bxf rr 7
    have i8 := bxc bb 8 (.int .i64 y.a) rfl; have p8 := bxc rr 8 _ rfl; have g8 := bxf rr 8
    have i9 := bxc bb 9 (.int .i64 y.b) rfl; have p9 := bxc rr 9 _ rfl; have g9 := bxf rr 9
    have i10 := bxc bb 10 (.int .i64 y.c) rfl; have p10 := bxc rr 10 _ rfl; have g10 := bxf rr 10
    have i11 := bxc bb 11 (.int .i64 y.d) rfl; have p11 := bxc rr 11 _ rfl; have g11 := bxf rr 11
    have i12 := bxc bb 12 (.int .i64 y1) rfl; have p12 := bxc rr 12 _ rfl; have g12 := bxf rr 12
    have i13 := bxc bb 13 (.slice Q q cq) rfl; have p13 := bxc rr 13 _ rfl; have g13 := bxf rr 13
    have RX := Lib.hid (fill14n (y0 := .slice P pn pc) (y1 := .slice A n c) (y2 := .slice Z m cz) (y3 := .slice Y p cp) (y4 := .int .i64 x.a) (y5 := .int .i64 x.b) (y6 := .int .i64 x.c) (y7 := .int .i64 x.d) (y8 := .int .i64 y.a) (y9 := .int .i64 y.b) (y10 := .int .i64 y.c) (y11 := .int .i64 y.d) (y12 := .int .i64 y1) (y13 := .slice Q q cq) rr)
    have r0 := bxc RX.out 0 (.slice P pn pc) rfl
    have r1 := bxc RX.out 1 (.slice A n c) rfl
    have r2 := bxc RX.out 2 (.slice Z m cz) rfl
    have r3 := bxc RX.out 3 (.slice Y p cp) rfl
    have r4 := bxc RX.out 4 (.int .i64 x.a) rfl
    have r5 := bxc RX.out 5 (.int .i64 x.b) rfl
    have r6 := bxc RX.out 6 (.int .i64 x.c) rfl
    have r7 := bxc RX.out 7 (.int .i64 x.d) rfl
    have r8 := bxc RX.out 8 (.int .i64 y.a) rfl
    have r9 := bxc RX.out 9 (.int .i64 y.b) rfl
    have r10 := bxc RX.out 10 (.int .i64 y.c) rfl
    have r11 := bxc RX.out 11 (.int .i64 y.d) rfl
    have r12 := bxc RX.out 12 (.int .i64 y1) rfl
    have r13 := bxc RX.out 13 (.slice Q q cq) rfl
    have FIN := Lib.hid (S9.out.quit (L' := L + 1000) (by omega))
    clear bb rr RX S9
    go_wp2
    exact bodyPost_ret (v := .agg #[.slice P pn pc, .slice A n c, .slice Z m cz, .slice Y p cp, .int .i64 x.a, .int .i64 x.b, .int .i64 x.c, .int .i64 x.d, .int .i64 y.a, .int .i64 y.b, .int .i64 y.c, .int .i64 y.d, .int .i64 y1, .slice Q q cq]) (by simp [results, Tryz.results95, go_sem, r0, r1, r2, r3, r4, r5, r6, r7, r8, r9, r10, r11, r12, r13]) rfl FIN.out
  · have t0E : (v == 0) = false := by rw [beq_eq_false_iff_ne]; exact t0
    by_cases t1 : v = 1
    · subst t1
      have hc7 := S6.out.cu
      go_wp2_with fail
      refine (anyLoss_any g _ _ hc7 (by omega)).mono ?_
      rintro e w8 ⟨x1, rfl, _, hc8, hg8⟩
      have S8 := Lib.hid (S6.out.chg hc8 hg8)
      have S9 := Lib.hid (show SvF w ((((w8.setCell ⟨b, 4, none⟩ (.int .i64 x1.a)).setCell ⟨b, 5, none⟩ (.int .i64 x1.b)).setCell ⟨b, 6, none⟩ (.int .i64 x1.c)).setCell ⟨b, 7, none⟩ (.int .i64 x1.d)) g _ b w.heap.size P A Z pn pc n c m cz ps vs Y p cp ts Q q cq us x1 y fl from S8.out.put [(4, .int .i64 x1.a), (5, .int .i64 x1.b), (6, .int .i64 x1.c), (7, .int .i64 x1.d)] rfl)
      have k4 := bxc S8.out.bx 4 _ rfl
      have f4 := bxf S8.out.bx 4
      have k5 := bxc S8.out.bx 5 _ rfl
      have f5 := bxf S8.out.bx 5
      have k6 := bxc S8.out.bx 6 _ rfl
      have f6 := bxf S8.out.bx 6
      have k7 := bxc S8.out.bx 7 _ rfl
      have f7 := bxf S8.out.bx 7
      have lb8 := lt_of_block S8.out.bx
      clear S6 hc7 hc8 hg8
      have bb := S9.out.bx
      have rr := S9.out.rx
      have lr9 := lt_of_block rr
      have i0 := bxc bb 0 (.slice P pn pc) rfl; have p0 := bxc rr 0 _ rfl; have g0 := bxf rr 0
      have i1 := bxc bb 1 (.slice A n c) rfl; have p1 := bxc rr 1 _ rfl; have g1 := bxf rr 1
      have i2 := bxc bb 2 (.slice Z m cz) rfl; have p2 := bxc rr 2 _ rfl; have g2 := bxf rr 2
      have i3 := bxc bb 3 (.slice Y p cp) rfl; have p3 := bxc rr 3 _ rfl; have g3 := bxf rr 3
      have i4 := bxc bb 4 (.int .i64 x1.a) rfl; have p4 := bxc rr 4 _ rfl; have g4 := bxf rr 4
      have i5 := bxc bb 5 (.int .i64 x1.b) rfl; have p5 := bxc rr 5 _ rfl; have g5 := bxf rr 5
      have i6 := bxc bb 6 (.int .i64 x1.c) rfl; have p6 := bxc rr 6 _ rfl; have g6 := bxf rr 6
      have i7 := bxc bb 7 (.int .i64 x1.d) rfl; have p7 := bxc rr 7 _ rfl; have g7 := bxf rr 7
      have i8 := bxc bb 8 (.int .i64 y.a) rfl; have p8 := bxc rr 8 _ rfl; have g8 := bxf rr 8
      have i9 := bxc bb 9 (.int .i64 y.b) rfl; have p9 := bxc rr 9 _ rfl; have g9 := bxf rr 9
      have i10 := bxc bb 10 (.int .i64 y.c) rfl; have p10 := bxc rr 10 _ rfl; have g10 := bxf rr 10
      have i11 := bxc bb 11 (.int .i64 y.d) rfl; have p11 := bxc rr 11 _ rfl; have g11 := bxf rr 11
      have i12 := bxc bb 12 (.int .i64 fl) rfl; have p12 := bxc rr 12 _ rfl; have g12 := bxf rr 12
      have i13 := bxc bb 13 (.slice Q q cq) rfl; have p13 := bxc rr 13 _ rfl; have g13 := bxf rr 13
      have RX := Lib.hid (fill14n (y0 := .slice P pn pc) (y1 := .slice A n c) (y2 := .slice Z m cz) (y3 := .slice Y p cp) (y4 := .int .i64 x1.a) (y5 := .int .i64 x1.b) (y6 := .int .i64 x1.c) (y7 := .int .i64 x1.d) (y8 := .int .i64 y.a) (y9 := .int .i64 y.b) (y10 := .int .i64 y.c) (y11 := .int .i64 y.d) (y12 := .int .i64 fl) (y13 := .slice Q q cq) rr)
      have r0 := bxc RX.out 0 (.slice P pn pc) rfl
      have r1 := bxc RX.out 1 (.slice A n c) rfl
      have r2 := bxc RX.out 2 (.slice Z m cz) rfl
      have r3 := bxc RX.out 3 (.slice Y p cp) rfl
      have r4 := bxc RX.out 4 (.int .i64 x1.a) rfl
      have r5 := bxc RX.out 5 (.int .i64 x1.b) rfl
      have r6 := bxc RX.out 6 (.int .i64 x1.c) rfl
      have r7 := bxc RX.out 7 (.int .i64 x1.d) rfl
      have r8 := bxc RX.out 8 (.int .i64 y.a) rfl
      have r9 := bxc RX.out 9 (.int .i64 y.b) rfl
      have r10 := bxc RX.out 10 (.int .i64 y.c) rfl
      have r11 := bxc RX.out 11 (.int .i64 y.d) rfl
      have r12 := bxc RX.out 12 (.int .i64 fl) rfl
      have r13 := bxc RX.out 13 (.slice Q q cq) rfl
      have FIN := Lib.hid (S9.out.quit (L' := L + 1000) (by omega))
      clear bb rr RX S9
      go_wp2
      exact bodyPost_ret (v := .agg #[.slice P pn pc, .slice A n c, .slice Z m cz, .slice Y p cp, .int .i64 x1.a, .int .i64 x1.b, .int .i64 x1.c, .int .i64 x1.d, .int .i64 y.a, .int .i64 y.b, .int .i64 y.c, .int .i64 y.d, .int .i64 fl, .slice Q q cq]) (by simp [results, Tryz.results95, go_sem, r0, r1, r2, r3, r4, r5, r6, r7, r8, r9, r10, r11, r12, r13]) rfl FIN.out
    · have t1E : (v == 1) = false := by rw [beq_eq_false_iff_ne]; exact t1
      by_cases t2 : v = 2
      · subst t2
        have k3 := bxc S6.out.bx 3 _ rfl
        have lb6 := lt_of_block S6.out.bx
        have hD := S6.out.o.pl
        have hpb := S6.out.o.hpl
        have hw5 : w.heap.size ≤ w5.heap.size := S6.out.ch.size
        go_wp2_with (at_builtin; refine wp_appT rfl _ _ rfl w.heap.size Y p cp ts rfl hD Y p cp ts rfl hD (by omega) hw5 ?_; intro Y2 cp2 w8 D8 grow8 hr8; have S9 := Lib.hid (S6.out.plan grow8 D8 hr8 (by omega)); have Xb8 := box_app2 S6.out.bx grow8 (S6.out.o.pl.ne_box S6.out.bx (by decide)); have q3 := bxc Xb8 3 _ rfl; have qf3 := bxf Xb8 3; clear D8 grow8 hr8 hD k3 lb6; have bb := S9.out.bx; have rr := S9.out.rx; have lr9 := lt_of_block rr; have i0 := bxc bb 0 (.slice P pn pc) rfl; have p0 := bxc rr 0 _ rfl; have g0 := bxf rr 0; have i1 := bxc bb 1 (.slice A n c) rfl; have p1 := bxc rr 1 _ rfl; have g1 := bxf rr 1; have i2 := bxc bb 2 (.slice Z m cz) rfl; have p2 := bxc rr 2 _ rfl; have g2 := bxf rr 2; have i3 := bxc bb 3 (.slice Y2 (p + p) cp2) rfl; have p3 := bxc rr 3 _ rfl; have g3 := bxf rr 3; have i4 := bxc bb 4 (.int .i64 x.a) rfl; have p4 := bxc rr 4 _ rfl; have g4 := bxf rr 4; have i5 := bxc bb 5 (.int .i64 x.b) rfl; have p5 := bxc rr 5 _ rfl; have g5 := bxf rr 5; have i6 := bxc bb 6 (.int .i64 x.c) rfl; have p6 := bxc rr 6 _ rfl; have g6 := bxf rr 6; have i7 := bxc bb 7 (.int .i64 x.d) rfl; have p7 := bxc rr 7 _ rfl; have g7 := bxf rr 7; have i8 := bxc bb 8 (.int .i64 y.a) rfl; have p8 := bxc rr 8 _ rfl; have g8 := bxf rr 8; have i9 := bxc bb 9 (.int .i64 y.b) rfl; have p9 := bxc rr 9 _ rfl; have g9 := bxf rr 9; have i10 := bxc bb 10 (.int .i64 y.c) rfl; have p10 := bxc rr 10 _ rfl; have g10 := bxf rr 10; have i11 := bxc bb 11 (.int .i64 y.d) rfl; have p11 := bxc rr 11 _ rfl; have g11 := bxf rr 11; have i12 := bxc bb 12 (.int .i64 fl) rfl; have p12 := bxc rr 12 _ rfl; have g12 := bxf rr 12; have i13 := bxc bb 13 (.slice Q q cq) rfl; have p13 := bxc rr 13 _ rfl; have g13 := bxf rr 13; have RX := Lib.hid (fill14n (y0 := .slice P pn pc) (y1 := .slice A n c) (y2 := .slice Z m cz) (y3 := .slice Y2 (p + p) cp2) (y4 := .int .i64 x.a) (y5 := .int .i64 x.b) (y6 := .int .i64 x.c) (y7 := .int .i64 x.d) (y8 := .int .i64 y.a) (y9 := .int .i64 y.b) (y10 := .int .i64 y.c) (y11 := .int .i64 y.d) (y12 := .int .i64 fl) (y13 := .slice Q q cq) rr); have r0 := bxc RX.out 0 (.slice P pn pc) rfl; have r1 := bxc RX.out 1 (.slice A n c) rfl; have r2 := bxc RX.out 2 (.slice Z m cz) rfl; have r3 := bxc RX.out 3 (.slice Y2 (p + p) cp2) rfl; have r4 := bxc RX.out 4 (.int .i64 x.a) rfl; have r5 := bxc RX.out 5 (.int .i64 x.b) rfl; have r6 := bxc RX.out 6 (.int .i64 x.c) rfl; have r7 := bxc RX.out 7 (.int .i64 x.d) rfl; have r8 := bxc RX.out 8 (.int .i64 y.a) rfl; have r9 := bxc RX.out 9 (.int .i64 y.b) rfl; have r10 := bxc RX.out 10 (.int .i64 y.c) rfl; have r11 := bxc RX.out 11 (.int .i64 y.d) rfl; have r12 := bxc RX.out 12 (.int .i64 fl) rfl; have r13 := bxc RX.out 13 (.slice Q q cq) rfl; have FIN := Lib.hid (S9.out.quit (L' := L + 1000) (by omega)); clear bb rr RX S9)
        exact bodyPost_ret (v := .agg #[.slice P pn pc, .slice A n c, .slice Z m cz, .slice Y2 (p + p) cp2, .int .i64 x.a, .int .i64 x.b, .int .i64 x.c, .int .i64 x.d, .int .i64 y.a, .int .i64 y.b, .int .i64 y.c, .int .i64 y.d, .int .i64 fl, .slice Q q cq]) (by simp [results, Tryz.results95, go_sem, r0, r1, r2, r3, r4, r5, r6, r7, r8, r9, r10, r11, r12, r13]) rfl FIN.out
      · have t2E : (v == 2) = false := by rw [beq_eq_false_iff_ne]; exact t2
        by_cases t3 : v = 3
        · subst t3
          have k3 := bxc S6.out.bx 3 _ rfl
          have k13 := bxc S6.out.bx 13 _ rfl
          have lb6 := lt_of_block S6.out.bx
          have hD := S6.out.o.pl
          have hE := S6.out.o.aq
          have hpb := hp8
          have hw5 : w.heap.size ≤ w5.heap.size := S6.out.ch.size
          go_wp2_with (at_builtin; refine wp_appT rfl _ _ rfl w.heap.size Q q cq us rfl hE Y p cp ts rfl hD (by omega) hw5 ?_; intro Y2 cp2 w8 D8 grow8 hr8; have S9 := Lib.hid (S6.out.aqd grow8 D8 hr8 (by omega)); have Xb8 := box_app2 S6.out.bx grow8 (S6.out.o.aq.ne_box S6.out.bx (by decide)); have q13 := bxc Xb8 13 _ rfl; have qf13 := bxf Xb8 13; clear D8 grow8 hr8 hD hE k3 k13 lb6; have bb := S9.out.bx; have rr := S9.out.rx; have lr9 := lt_of_block rr; have i0 := bxc bb 0 (.slice P pn pc) rfl; have p0 := bxc rr 0 _ rfl; have g0 := bxf rr 0; have i1 := bxc bb 1 (.slice A n c) rfl; have p1 := bxc rr 1 _ rfl; have g1 := bxf rr 1; have i2 := bxc bb 2 (.slice Z m cz) rfl; have p2 := bxc rr 2 _ rfl; have g2 := bxf rr 2; have i3 := bxc bb 3 (.slice Y p cp) rfl; have p3 := bxc rr 3 _ rfl; have g3 := bxf rr 3; have i4 := bxc bb 4 (.int .i64 x.a) rfl; have p4 := bxc rr 4 _ rfl; have g4 := bxf rr 4; have i5 := bxc bb 5 (.int .i64 x.b) rfl; have p5 := bxc rr 5 _ rfl; have g5 := bxf rr 5; have i6 := bxc bb 6 (.int .i64 x.c) rfl; have p6 := bxc rr 6 _ rfl; have g6 := bxf rr 6; have i7 := bxc bb 7 (.int .i64 x.d) rfl; have p7 := bxc rr 7 _ rfl; have g7 := bxf rr 7; have i8 := bxc bb 8 (.int .i64 y.a) rfl; have p8 := bxc rr 8 _ rfl; have g8 := bxf rr 8; have i9 := bxc bb 9 (.int .i64 y.b) rfl; have p9 := bxc rr 9 _ rfl; have g9 := bxf rr 9; have i10 := bxc bb 10 (.int .i64 y.c) rfl; have p10 := bxc rr 10 _ rfl; have g10 := bxf rr 10; have i11 := bxc bb 11 (.int .i64 y.d) rfl; have p11 := bxc rr 11 _ rfl; have g11 := bxf rr 11; have i12 := bxc bb 12 (.int .i64 fl) rfl; have p12 := bxc rr 12 _ rfl; have g12 := bxf rr 12; have i13 := bxc bb 13 (.slice Y2 (q + p) cp2) rfl; have p13 := bxc rr 13 _ rfl; have g13 := bxf rr 13; have RX := Lib.hid (fill14n (y0 := .slice P pn pc) (y1 := .slice A n c) (y2 := .slice Z m cz) (y3 := .slice Y p cp) (y4 := .int .i64 x.a) (y5 := .int .i64 x.b) (y6 := .int .i64 x.c) (y7 := .int .i64 x.d) (y8 := .int .i64 y.a) (y9 := .int .i64 y.b) (y10 := .int .i64 y.c) (y11 := .int .i64 y.d) (y12 := .int .i64 fl) (y13 := .slice Y2 (q + p) cp2) rr); have r0 := bxc RX.out 0 (.slice P pn pc) rfl; have r1 := bxc RX.out 1 (.slice A n c) rfl; have r2 := bxc RX.out 2 (.slice Z m cz) rfl; have r3 := bxc RX.out 3 (.slice Y p cp) rfl; have r4 := bxc RX.out 4 (.int .i64 x.a) rfl; have r5 := bxc RX.out 5 (.int .i64 x.b) rfl; have r6 := bxc RX.out 6 (.int .i64 x.c) rfl; have r7 := bxc RX.out 7 (.int .i64 x.d) rfl; have r8 := bxc RX.out 8 (.int .i64 y.a) rfl; have r9 := bxc RX.out 9 (.int .i64 y.b) rfl; have r10 := bxc RX.out 10 (.int .i64 y.c) rfl; have r11 := bxc RX.out 11 (.int .i64 y.d) rfl; have r12 := bxc RX.out 12 (.int .i64 fl) rfl; have r13 := bxc RX.out 13 (.slice Y2 (q + p) cp2) rfl; have FIN := Lib.hid (S9.out.quit (L' := L + 1000) (by omega)); clear bb rr RX S9)
          exact bodyPost_ret (v := .agg #[.slice P pn pc, .slice A n c, .slice Z m cz, .slice Y p cp, .int .i64 x.a, .int .i64 x.b, .int .i64 x.c, .int .i64 x.d, .int .i64 y.a, .int .i64 y.b, .int .i64 y.c, .int .i64 y.d, .int .i64 fl, .slice Y2 (q + p) cp2]) (by simp [results, Tryz.results95, go_sem, r0, r1, r2, r3, r4, r5, r6, r7, r8, r9, r10, r11, r12, r13]) rfl FIN.out
        · have t3E : (v == 3) = false := by rw [beq_eq_false_iff_ne]; exact t3
          by_cases t4 : v = 4
          · subst t4
            have hc7 := S6.out.cu
            have hw5 : w.heap.size ≤ w5.heap.size := S6.out.ch.size
            go_wp2_with fail
            refine (anyGeo_any g _ _ hc7 (by omega)).mono ?_
            rintro e w8 ⟨P2, pn2, pc2, ps2, rfl, hn2, oP, hc8, hg8⟩
            have S8 := Lib.hid (S6.out.chg hc8 hg8)
            have S9 := Lib.hid (S8.out.geo (oP.fit hw5) hn2)
            have k0 := bxc S8.out.bx 0 _ rfl
            have f0 := bxf S8.out.bx 0
            have lb8 := lt_of_block S8.out.bx
            clear S6 hc7 hc8 hg8 oP
            have bb := S9.out.bx
            have rr := S9.out.rx
            have lr9 := lt_of_block rr
            have i0 := bxc bb 0 (.slice P2 pn2 pc2) rfl; have p0 := bxc rr 0 _ rfl; have g0 := bxf rr 0
            have i1 := bxc bb 1 (.slice A n c) rfl; have p1 := bxc rr 1 _ rfl; have g1 := bxf rr 1
            have i2 := bxc bb 2 (.slice Z m cz) rfl; have p2 := bxc rr 2 _ rfl; have g2 := bxf rr 2
            have i3 := bxc bb 3 (.slice Y p cp) rfl; have p3 := bxc rr 3 _ rfl; have g3 := bxf rr 3
            have i4 := bxc bb 4 (.int .i64 x.a) rfl; have p4 := bxc rr 4 _ rfl; have g4 := bxf rr 4
            have i5 := bxc bb 5 (.int .i64 x.b) rfl; have p5 := bxc rr 5 _ rfl; have g5 := bxf rr 5
            have i6 := bxc bb 6 (.int .i64 x.c) rfl; have p6 := bxc rr 6 _ rfl; have g6 := bxf rr 6
            have i7 := bxc bb 7 (.int .i64 x.d) rfl; have p7 := bxc rr 7 _ rfl; have g7 := bxf rr 7
            have i8 := bxc bb 8 (.int .i64 y.a) rfl; have p8 := bxc rr 8 _ rfl; have g8 := bxf rr 8
            have i9 := bxc bb 9 (.int .i64 y.b) rfl; have p9 := bxc rr 9 _ rfl; have g9 := bxf rr 9
            have i10 := bxc bb 10 (.int .i64 y.c) rfl; have p10 := bxc rr 10 _ rfl; have g10 := bxf rr 10
            have i11 := bxc bb 11 (.int .i64 y.d) rfl; have p11 := bxc rr 11 _ rfl; have g11 := bxf rr 11
            have i12 := bxc bb 12 (.int .i64 fl) rfl; have p12 := bxc rr 12 _ rfl; have g12 := bxf rr 12
            have i13 := bxc bb 13 (.slice Q q cq) rfl; have p13 := bxc rr 13 _ rfl; have g13 := bxf rr 13
            have RX := Lib.hid (fill14n (y0 := .slice P2 pn2 pc2) (y1 := .slice A n c) (y2 := .slice Z m cz) (y3 := .slice Y p cp) (y4 := .int .i64 x.a) (y5 := .int .i64 x.b) (y6 := .int .i64 x.c) (y7 := .int .i64 x.d) (y8 := .int .i64 y.a) (y9 := .int .i64 y.b) (y10 := .int .i64 y.c) (y11 := .int .i64 y.d) (y12 := .int .i64 fl) (y13 := .slice Q q cq) rr)
            have r0 := bxc RX.out 0 (.slice P2 pn2 pc2) rfl
            have r1 := bxc RX.out 1 (.slice A n c) rfl
            have r2 := bxc RX.out 2 (.slice Z m cz) rfl
            have r3 := bxc RX.out 3 (.slice Y p cp) rfl
            have r4 := bxc RX.out 4 (.int .i64 x.a) rfl
            have r5 := bxc RX.out 5 (.int .i64 x.b) rfl
            have r6 := bxc RX.out 6 (.int .i64 x.c) rfl
            have r7 := bxc RX.out 7 (.int .i64 x.d) rfl
            have r8 := bxc RX.out 8 (.int .i64 y.a) rfl
            have r9 := bxc RX.out 9 (.int .i64 y.b) rfl
            have r10 := bxc RX.out 10 (.int .i64 y.c) rfl
            have r11 := bxc RX.out 11 (.int .i64 y.d) rfl
            have r12 := bxc RX.out 12 (.int .i64 fl) rfl
            have r13 := bxc RX.out 13 (.slice Q q cq) rfl
            have FIN := Lib.hid (S9.out.quit (L' := L + 1000) (by omega))
            clear bb rr RX S9
            go_wp2
            exact bodyPost_ret (v := .agg #[.slice P2 pn2 pc2, .slice A n c, .slice Z m cz, .slice Y p cp, .int .i64 x.a, .int .i64 x.b, .int .i64 x.c, .int .i64 x.d, .int .i64 y.a, .int .i64 y.b, .int .i64 y.c, .int .i64 y.d, .int .i64 fl, .slice Q q cq]) (by simp [results, Tryz.results95, go_sem, r0, r1, r2, r3, r4, r5, r6, r7, r8, r9, r10, r11, r12, r13]) rfl FIN.out
          · have t4E : (v == 4) = false := by rw [beq_eq_false_iff_ne]; exact t4
            have S9 := S6
            clear S6
            have bb := S9.out.bx
            have rr := S9.out.rx
            have lr9 := lt_of_block rr
            have i0 := bxc bb 0 (.slice P pn pc) rfl; have p0 := bxc rr 0 _ rfl; have g0 := bxf rr 0
            have i1 := bxc bb 1 (.slice A n c) rfl; have p1 := bxc rr 1 _ rfl; have g1 := bxf rr 1
            have i2 := bxc bb 2 (.slice Z m cz) rfl; have p2 := bxc rr 2 _ rfl; have g2 := bxf rr 2
            have i3 := bxc bb 3 (.slice Y p cp) rfl; have p3 := bxc rr 3 _ rfl; have g3 := bxf rr 3
            have i4 := bxc bb 4 (.int .i64 x.a) rfl; have p4 := bxc rr 4 _ rfl; have g4 := bxf rr 4
            have i5 := bxc bb 5 (.int .i64 x.b) rfl; have p5 := bxc rr 5 _ rfl; have g5 := bxf rr 5
            have i6 := bxc bb 6 (.int .i64 x.c) rfl; have p6 := bxc rr 6 _ rfl; have g6 := bxf rr 6
            have i7 := bxc bb 7 (.int .i64 x.d) rfl; have p7 := bxc rr 7 _ rfl; have g7 := bxf rr 7
            have i8 := bxc bb 8 (.int .i64 y.a) rfl; have p8 := bxc rr 8 _ rfl; have g8 := bxf rr 8
            have i9 := bxc bb 9 (.int .i64 y.b) rfl; have p9 := bxc rr 9 _ rfl; have g9 := bxf rr 9
            have i10 := bxc bb 10 (.int .i64 y.c) rfl; have p10 := bxc rr 10 _ rfl; have g10 := bxf rr 10
            have i11 := bxc bb 11 (.int .i64 y.d) rfl; have p11 := bxc rr 11 _ rfl; have g11 := bxf rr 11
            have i12 := bxc bb 12 (.int .i64 fl) rfl; have p12 := bxc rr 12 _ rfl; have g12 := bxf rr 12
            have i13 := bxc bb 13 (.slice Q q cq) rfl; have p13 := bxc rr 13 _ rfl; have g13 := bxf rr 13
            have RX := Lib.hid (fill14n (y0 := .slice P pn pc) (y1 := .slice A n c) (y2 := .slice Z m cz) (y3 := .slice Y p cp) (y4 := .int .i64 x.a) (y5 := .int .i64 x.b) (y6 := .int .i64 x.c) (y7 := .int .i64 x.d) (y8 := .int .i64 y.a) (y9 := .int .i64 y.b) (y10 := .int .i64 y.c) (y11 := .int .i64 y.d) (y12 := .int .i64 fl) (y13 := .slice Q q cq) rr)
            have r0 := bxc RX.out 0 (.slice P pn pc) rfl
            have r1 := bxc RX.out 1 (.slice A n c) rfl
            have r2 := bxc RX.out 2 (.slice Z m cz) rfl
            have r3 := bxc RX.out 3 (.slice Y p cp) rfl
            have r4 := bxc RX.out 4 (.int .i64 x.a) rfl
            have r5 := bxc RX.out 5 (.int .i64 x.b) rfl
            have r6 := bxc RX.out 6 (.int .i64 x.c) rfl
            have r7 := bxc RX.out 7 (.int .i64 x.d) rfl
            have r8 := bxc RX.out 8 (.int .i64 y.a) rfl
            have r9 := bxc RX.out 9 (.int .i64 y.b) rfl
            have r10 := bxc RX.out 10 (.int .i64 y.c) rfl
            have r11 := bxc RX.out 11 (.int .i64 y.d) rfl
            have r12 := bxc RX.out 12 (.int .i64 fl) rfl
            have r13 := bxc RX.out 13 (.slice Q q cq) rfl
            have FIN := Lib.hid (S9.out.quit (L' := L + 1000) (by omega))
            clear bb rr RX S9
            go_wp2
            exact bodyPost_ret (v := .agg #[.slice P pn pc, .slice A n c, .slice Z m cz, .slice Y p cp, .int .i64 x.a, .int .i64 x.b, .int .i64 x.c, .int .i64 x.d, .int .i64 y.a, .int .i64 y.b, .int .i64 y.c, .int .i64 y.d, .int .i64 fl, .slice Q q cq]) (by simp [results, Tryz.results95, go_sem, r0, r1, r2, r3, r4, r5, r6, r7, r8, r9, r10, r11, r12, r13]) rfl FIN.out

end Go.Proofs.YtfanpbfmnckmnaaGreat
