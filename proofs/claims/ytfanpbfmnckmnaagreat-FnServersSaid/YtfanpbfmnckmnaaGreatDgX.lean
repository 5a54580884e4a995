/- DrawAskAll; printed by geb.py. -/
import Derived.Test.YtfanpbfmnckmnaaGreatYv
namespace Go.Proofs.YtfanpbfmnckmnaaGreat
open Go.RowKit

def lenV : Value → Nat
  | .slice _ n _ => n
  | _ => 0
/-- A drawn server and tables. -/
def DAl (w : World) (e : Ending) (w' : World) : Prop := ∃ (P A Z : Option Addr) (pn pc n c m cz : Nat) (ps : List Int) (vs : List (ByteArray × Int)) (Y : Option Addr) (p cp : Nat) (ts : List TabD) (Q : Option Addr) (q cq : Nat) (us : List TabD) (x y : LosD) (fl : Int) (L : Option Addr) (tn tc : Nat) (l : List TabD), e = .returned (.tuple #[.agg #[.slice P pn pc, .slice A n c, .slice Z m cz, .slice Y p cp, .int .i64 x.a, .int .i64 x.b, .int .i64 x.c, .int .i64 x.d, .int .i64 y.a, .int .i64 y.b, .int .i64 y.c, .int .i64 y.d, .int .i64 fl, .slice Q q cq], .slice L tn tc]) ∧ SvO w' w.heap.size P A Z pn pc n c m cz ps vs Y p cp ts Q q cq us x y fl ∧ (∃ lo, DTl w' lo L tn tc l) ∧ tn ≤ 30 ∧ Below w.heap.size w w'
/-- What laws want of it. -/
def DAr (w : World) (e : Ending) (w' : World) : Prop := ∃ (P A Z Y Q : Option Addr) (g cg n c m cm p cp q cq : Nat) (D : SvD) (L : Option Addr) (tn tc : Nat) (l : List TabD), e = .returned (.tuple #[.agg #[.slice P g cg, .slice A n c, .slice Z m cm, .slice Y p cp, .int .i64 D.cost.a, .int .i64 D.cost.b, .int .i64 D.cost.c, .int .i64 D.cost.d, .int .i64 D.bud.a, .int .i64 D.bud.b, .int .i64 D.bud.c, .int .i64 D.bud.d, .int .i64 D.floor, .slice Q q cq], .slice L tn tc]) ∧ SvR w' P A Z Y Q g n c m p cp q cq D ∧ TabsR w' L tn l ∧ p ≤ 100 ∧ q ≤ 100 ∧ Below w.heap.size w w'
theorem DAl.law {w w' : World} {e : Ending} (h : DAl w e w') : DAr w e w' := by
  obtain ⟨P, A, Z, pn, pc, n, c, m, cz, ps, vs, Y, p, cp, ts, Q, q, cq, us, x, y, fl, L, tn, tc, l, rfl, hO, ⟨lo, dl⟩, htn, hb⟩ := h
  obtain ⟨rs, hV⟩ := hO.svR
  exact ⟨P, A, Z, Y, Q, pn, pc, n, c, m, cz, p, cp, q, cq, ⟨ps, vs, rs, ts, x, y, fl, us⟩, L, tn, tc, l, rfl, hV, dl.tabs (by omega), hO.hpl, hO.haq, hb⟩
theorem Chg.grownN {lo hi : Nat} {a b c : World} {A : Option Addr} (h : Chg lo hi a b) (hg : b.grownBy c (rowOf A)) (hr : ∀ k, rowOf A = some k → a.heap.size ≤ k) : Chg lo hi a c :=
  ⟨hg.os.trans h.os, hg.tape.trans h.tape, hg.output.trans h.output, Nat.le_trans h.size hg.size, fun k hk ho => (hg.block k (Nat.lt_of_lt_of_le hk h.size) (fun e => by have := hr k e.symm; omega)).trans (h.block k hk ho)⟩
/-- The list while it is drawn: the server's box was made before wc. -/
structure DAs_ (lo g : Nat) (wc wr : World) (B : Nat) (L : Option Addr) (tn tc : Nat) (l : List TabD) : Prop where
  cu : Cur wr g B
  ch : Chg g (g + 1) wc wr
  dl : DTl wr lo L tn tc l
  rw : ∀ k, rowOf L = some k → wc.heap.size ≤ k
theorem DAs_.snoc {lo g B tn tc tc2 m cv k cu : Nat} {wc wr wr' : World} {L L2 V U : Option Addr} {l : List TabD} {t : TabD} {ys : List Value} (h : DAs_ lo g wc wr B L tn tc l) (hgc : g < wc.heap.size) (_hlo : lo ≤ wr.heap.size) (hy : wr.ownsRow lo 56 4 (.slice L tn tc) tn ys) (hv : OwnI wr lo wr.heap.size V m cv t.vars) (hu : OwnI wr lo wr.heap.size U k cu t.wh)
    (hg : wr.grownBy wr' (rowOf L)) (hn : wr'.ownsRow lo 56 4 (.slice L2 (tn + 1) tc2) (tn + 1) (ys ++ [.int .i64 t.lv, .slice V m cv, .slice U k cu, .int .i64 t.sum])) (hr : rowOf L2 = rowOf L ∨ rowOf L2 = some (wr.heap.size + 1)) : DAs_ lo g wc wr' B L2 (tn + 1) tc2 (l ++ [t]) := by
  have hz := h.ch.size
  have hc := h.cu.lt
  refine ⟨h.cu.keep fun j hj => hg.block j (by omega) (fun e => by have := h.rw j e.symm; omega), h.ch.grownN hg h.rw, h.dl.snoc hy hv hu hg hn, fun j hj => ?_⟩
  rcases hr with e | e
  · exact h.rw j (by rw [← e]; exact hj)
  · rw [e] at hj; injection hj with hj; omega

set_option maxRecDepth 100000 in
set_option maxHeartbeats 4000000 in
theorem drawAskAll_any (A0 : Option Addr) (n0 c0 : Nat) (w : World) (hb : Byt w A0 n0) (hn : n0 ≤ 9223372036854775807) :
    Calls Tryz.prog 41 #[.slice A0 n0 c0] w (DAl w) := by
  obtain ⟨i0, hi, hz0, hz1, hz2⟩ := info_parts Tryz.infoTable
  obtain ⟨b0, xr, xc⟩ := box_two w #[.slice none 0 0, .slice none 0 0, .slice none 0 0, .slice none 0 0, .int .i64 0, .int .i64 0, .int .i64 0, .int .i64 0, .int .i64 0, .int .i64 0, .int .i64 0, .int .i64 0, .int .i64 0, .slice none 0 0] #[.slice A0 n0 c0, .int .i64 0, .int .u64 0] 44 115
  have S0 : w.heap.size + 1 + 1 ≤ ((w.alloc (.cells #[.slice none 0 0, .slice none 0 0, .slice none 0 0, .slice none 0 0, .int .i64 0, .int .i64 0, .int .i64 0, .int .i64 0, .int .i64 0, .int .i64 0, .int .i64 0, .int .i64 0, .int .i64 0, .slice none 0 0] 44)).alloc (.cells #[.slice A0 n0 c0, .int .i64 0, .int .u64 0] 115)).heap.size := by simp
  have hc0 : Cur _ (w.heap.size + 1) 0 := cur_new2 xc (by omega) hb (fun b hb => b0.block b hb) hn
  have hG0 : Chg (w.heap.size + 1) (w.heap.size + 1 + 1) w _ := Chg.of_below b0
  clear xc b0
  go_enter Tryz.func41, Tryz.ntmps41
  go_wp2_with fail
  generalize ((w.alloc (.cells #[.slice none 0 0, .slice none 0 0, .slice none 0 0, .slice none 0 0, .int .i64 0, .int .i64 0, .int .i64 0, .int .i64 0, .int .i64 0, .int .i64 0, .int .i64 0, .int .i64 0, .int .i64 0, .slice none 0 0] 44)).alloc (.cells #[.slice A0 n0 c0, .int .i64 0, .int .u64 0] 115)) = w0 at *
  refine (server_any _ _ _ hc0 (by omega)).mono ?_
  rintro e w1 ⟨P, A, Z, pn, pc, n, c, m, cz, ps, vs, Y, p, cp, ts, Q, q, cq, us, x, y, fl, rfl, hO, hc1, hg1⟩
  have z1 := hg1.size
  have b2 := below_new w1 (.cells #[.slice P pn pc, .slice A n c, .slice Z m cz, .slice Y p cp, .int .i64 x.a, .int .i64 x.b, .int .i64 x.c, .int .i64 x.d, .int .i64 y.a, .int .i64 y.b, .int .i64 y.c, .int .i64 y.d, .int .i64 fl, .slice Q q cq] 44)
  have XB := Lib.hid (box_new w1 #[.slice P pn pc, .slice A n c, .slice Z m cz, .slice Y p cp, .int .i64 x.a, .int .i64 x.b, .int .i64 x.c, .int .i64 x.d, .int .i64 y.a, .int .i64 y.b, .int .i64 y.c, .int .i64 y.d, .int .i64 fl, .slice Q q cq] 44)
  have XR := Lib.hid (bxb (box_chg xr hg1 (by omega)) b2)
  have HO := Lib.hid (hO.below b2)
  have HG := Lib.hid ((hG0.trans hg1).then_ b2)
  have hc2 := hc1.below b2
  have z2 := b2.size
  have LB := Lib.hid (lt_of_block XB.out)
  clear hc0 hG0 hc1 hg1 hO xr b2
  go_wp2_with fail
  obtain ⟨gb, hgb⟩ : ∃ gb, Hid (w1.heap.size = gb) := ⟨_, Lib.hid rfl⟩
  rw [hgb.out] at XB LB ⊢
  have hgb2 : w0.heap.size ≤ gb := by rw [← hgb.out]; exact z1
  generalize w1.alloc (.cells #[.slice P pn pc, .slice A n c, .slice Z m cz, .slice Y p cp, .int .i64 x.a, .int .i64 x.b, .int .i64 x.c, .int .i64 x.d, .int .i64 y.a, .int .i64 y.b, .int .i64 y.c, .int .i64 y.d, .int .i64 fl, .slice Q q cq] 44) = wc at *
  refine (pick_any _ _ _ _ hc2 (by omega) (by omega)).mono ?_
  rintro e w3 ⟨v, rfl, hv0, hv1, hc3, hg3⟩
  have hv2 : v < 6 := by split at hv1 <;> omega
  clear hv1
  obtain ⟨vn, rfl⟩ := Int.eq_ofNat_of_zero_le hv0
  have hlc : w0.heap.size ≤ wc.heap.size := by omega
  have H3 : Hid (DAs_ w0.heap.size (w.heap.size + 1) wc w3 (1100 + 130 * 0) none 0 0 []) := Lib.hid ⟨hc3.mono (by omega), hg3, DTl.nil_, fun k hk => by cases hk⟩
  clear hc2 hc3 hg3
  go_wp2
  go_loopw [6, 7] (fun lv kv wr => ∃ (j : Nat) (L : Option Addr) (tn tc : Nat) (l : List TabD), tn + j ≤ 5 ∧ lv = .slice L tn tc ∧ kv = .int .i64 j ∧ Hid (DAs_ w0.heap.size (w.heap.size + 1) wc wr (1100 + 130 * tn) L tn tc l)) (fun _ kv _ => (intOf kv).toNat)
  case atStart => exact ⟨vn, none, 0, 0, [], by omega, rfl, rfl, H3⟩
  case round =>
    clear H3 hv0 hv2
    obtain ⟨j, L, tn, tc, l, hj, rfl, rfl, HS⟩ := hrel
    have hzr := HS.out.ch.size
    have XB1 := Lib.hid (box_chg XB.out HS.out.ch (by omega))
    by_cases hlt : 0 < j
    · have hd : decide ((0 : Int) < (j : Int)) = true := by simpa using hlt
      have HO1 := Lib.hid (HO.out.chg HS.out.ch (by omega))
      have k_0 := bxc XB1.out 0 (.slice P pn pc) rfl
      have k_1 := bxc XB1.out 1 (.slice A n c) rfl
      have k_2 := bxc XB1.out 2 (.slice Z m cz) rfl
      have k_3 := bxc XB1.out 3 (.slice Y p cp) rfl
      have k_4 := bxc XB1.out 4 (.int .i64 x.a) rfl
      have k_5 := bxc XB1.out 5 (.int .i64 x.b) rfl
      have k_6 := bxc XB1.out 6 (.int .i64 x.c) rfl
      have k_7 := bxc XB1.out 7 (.int .i64 x.d) rfl
      have k_8 := bxc XB1.out 8 (.int .i64 y.a) rfl
      have k_9 := bxc XB1.out 9 (.int .i64 y.b) rfl
      have k_10 := bxc XB1.out 10 (.int .i64 y.c) rfl
      have k_11 := bxc XB1.out 11 (.int .i64 y.d) rfl
      have k_12 := bxc XB1.out 12 (.int .i64 fl) rfl
      have k_13 := bxc XB1.out 13 (.slice Q q cq) rfl
      have lb := lt_of_block XB1.out
      go_wp2_with fail
      clear lb k_0 k_1 k_2 k_3 k_4 k_5 k_6 k_7 k_8 k_9 k_10 k_11 k_12 k_13
      refine (asked_any P A Z pn pc n c m cz ps vs Y p cp ts Q q cq us x y fl (w.heap.size + 1) _ w0.heap.size _ HS.out.cu (by omega) HO1.out (by omega) (by omega)).mono ?_
      rintro e w4 ⟨V, m', d', U, k', e', t, rfl, oV, oU, hc4, hg4⟩
      have z4 := hg4.size
      have HS4 : Hid (DAs_ w0.heap.size (w.heap.size + 1) wc w4 (1100 + 130 * (tn + 1)) L tn tc l) := Lib.hid ⟨hc4.mono (by omega), HS.out.ch.trans hg4, HS.out.dl.chg hg4 (by omega), HS.out.rw⟩
      have OV := Lib.hid oV
      have OU := Lib.hid oU
      obtain ⟨ys, hoy⟩ := HS4.out.dl.rows
      clear HS HO1 oV oU hc4 hg4
      go_wp2_with (at_builtin; refine wp_appG (cs := #[.int .i64 t.lv, .slice V m' d', .slice U k' e', .int .i64 t.sum]) rfl _ _ rfl Tryz.underlying39 hi hz0 hz1 hz2 rfl (by omega) (by omega) rfl (by simp [Value.oneCell']) w0.heap.size L tn tc ys rfl hoy _ rfl (by simp) (by omega) (by omega) ?_; intro L7 c7 w7 own7 grow7 row7; have HS7 := Lib.hid (HS4.out.snoc (t := t) (by omega) (by omega) hoy OV.out OU.out grow7 own7 row7))
      go_roundw
      case rel => exact ⟨j - 1, L7, tn + 1, c7, l ++ [t], by omega, by go_num, by go_num, HS7⟩
      case measure => simp [intOf]; omega
    · obtain rfl : j = 0 := by omega
      clear hlt
      go_wp2_with fail
      refine (one_any _ _ _ _ HS.out.cu (by omega) (by omega)).mono ?_
      rintro e w4 ⟨bb, rfl, hc4, hg4⟩
      have z4 := hg4.size
      have HS4 : Hid (DAs_ w0.heap.size (w.heap.size + 1) wc w4 (2000 + 4 * tn) L tn tc l) := Lib.hid ⟨hc4.mono (by omega), HS.out.ch.trans hg4, HS.out.dl.chg hg4 (by omega), HS.out.rw⟩
      have htn : tn ≤ 21 := by omega
      clear HS hc4 hg4 XB1 hzr z4 hj
      cases bb
      · have XB4 := Lib.hid (box_chg XB.out HS4.out.ch (by omega))
        have XR4 := Lib.hid (box_chg XR.out HS4.out.ch (by omega))
        have HO4 := Lib.hid ((HO.out.chg HS4.out.ch (by omega)).mono (show w.heap.size ≤ w0.heap.size by omega))
        have HB4 := Lib.hid ((HG.out.trans HS4.out.ch).to_below (Nat.le_succ _))
        have lb4 := lt_of_block XB4.out
        have lr4 := lt_of_block XR4.out
        have k4_0 := bxc XB4.out 0 (.slice P pn pc) rfl
        have k4_1 := bxc XB4.out 1 (.slice A n c) rfl
        have k4_2 := bxc XB4.out 2 (.slice Z m cz) rfl
        have k4_3 := bxc XB4.out 3 (.slice Y p cp) rfl
        have k4_4 := bxc XB4.out 4 (.int .i64 x.a) rfl
        have k4_5 := bxc XB4.out 5 (.int .i64 x.b) rfl
        have k4_6 := bxc XB4.out 6 (.int .i64 x.c) rfl
        have k4_7 := bxc XB4.out 7 (.int .i64 x.d) rfl
        have k4_8 := bxc XB4.out 8 (.int .i64 y.a) rfl
        have k4_9 := bxc XB4.out 9 (.int .i64 y.b) rfl
        have k4_10 := bxc XB4.out 10 (.int .i64 y.c) rfl
        have k4_11 := bxc XB4.out 11 (.int .i64 y.d) rfl
        have k4_12 := bxc XB4.out 12 (.int .i64 fl) rfl
        have k4_13 := bxc XB4.out 13 (.slice Q q cq) rfl
        have p0 := bxc XR4.out 0 _ rfl
        have g0 := bxf XR4.out 0
        have p1 := bxc XR4.out 1 _ rfl
        have g1 := bxf XR4.out 1
        have p2 := bxc XR4.out 2 _ rfl
        have g2 := bxf XR4.out 2
        have p3 := bxc XR4.out 3 _ rfl
        have g3 := bxf XR4.out 3
        have p4 := bxc XR4.out 4 _ rfl
        have g4 := bxf XR4.out 4
        have p5 := bxc XR4.out 5 _ rfl
        have g5 := bxf XR4.out 5
        have p6 := bxc XR4.out 6 _ rfl
        have g6 := bxf XR4.out 6
        have p7 := bxc XR4.out 7 _ rfl
        have g7 := bxf XR4.out 7
        have p8 := bxc XR4.out 8 _ rfl
        have g8 := bxf XR4.out 8
        have p9 := bxc XR4.out 9 _ rfl
        have g9 := bxf XR4.out 9
        have p10 := bxc XR4.out 10 _ rfl
        have g10 := bxf XR4.out 10
        have p11 := bxc XR4.out 11 _ rfl
        have g11 := bxf XR4.out 11
        have p12 := bxc XR4.out 12 _ rfl
        have g12 := bxf XR4.out 12
        have p13 := bxc XR4.out 13 _ rfl
        have g13 := bxf XR4.out 13
        have RX := Lib.hid (fill14n (y0 := .slice P pn pc) (y1 := .slice A n c) (y2 := .slice Z m cz) (y3 := .slice Y p cp) (y4 := .int .i64 x.a) (y5 := .int .i64 x.b) (y6 := .int .i64 x.c) (y7 := .int .i64 x.d) (y8 := .int .i64 y.a) (y9 := .int .i64 y.b) (y10 := .int .i64 y.c) (y11 := .int .i64 y.d) (y12 := .int .i64 fl) (y13 := .slice Q q cq) XR4.out)
        have r0 := bxc RX.out 0 (.slice P pn pc) rfl
        have r1 := bxc RX.out 1 (.slice A n c) rfl
        have r2 := bxc RX.out 2 (.slice Z m cz) rfl
        have r3 := bxc RX.out 3 (.slice Y p cp) rfl
        have r4 := bxc RX.out 4 (.int .i64 x.a) rfl
        have r5 := bxc RX.out 5 (.int .i64 x.b) rfl
        have r6 := bxc RX.out 6 (.int .i64 x.c) rfl
        have r7 := bxc RX.out 7 (.int .i64 x.d) rfl
        have r8 := bxc RX.out 8 (.int .i64 y.a) rfl
        have r9 := bxc RX.out 9 (.int .i64 y.b) rfl
        have r10 := bxc RX.out 10 (.int .i64 y.c) rfl
        have r11 := bxc RX.out 11 (.int .i64 y.d) rfl
        have r12 := bxc RX.out 12 (.int .i64 fl) rfl
        have r13 := bxc RX.out 13 (.slice Q q cq) rfl
        have F1 := HO4.out.fill XR4.out HB4.out (Nat.le_refl _)
        have F2 := HS4.out.dl.off XR4.out (by decide) (by decide) (fun j hj => puts_ne (g := w.heap.size) [(0, .slice P pn pc), (1, .slice A n c), (2, .slice Z m cz), (3, .slice Y p cp), (4, .int .i64 x.a), (5, .int .i64 x.b), (6, .int .i64 x.c), (7, .int .i64 x.d), (8, .int .i64 y.a), (9, .int .i64 y.b), (10, .int .i64 y.c), (11, .int .i64 y.d), (12, .int .i64 fl), (13, .slice Q q cq)] w4 hj) (puts_size (g := w.heap.size) [(0, .slice P pn pc), (1, .slice A n c), (2, .slice Z m cz), (3, .slice Y p cp), (4, .int .i64 x.a), (5, .int .i64 x.b), (6, .int .i64 x.c), (7, .int .i64 x.d), (8, .int .i64 y.a), (9, .int .i64 y.b), (10, .int .i64 y.c), (11, .int .i64 y.d), (12, .int .i64 fl), (13, .slice Q q cq)] w4)
        rw [puts14] at F2
        have FIN := Lib.hid (And.intro F1 F2)
        clear F1 F2 XB4 XR4 HO4 HB4 RX HS4
        go_wp2
        exact bodyPost_ret (v := .tuple #[.agg #[.slice P pn pc, .slice A n c, .slice Z m cz, .slice Y p cp, .int .i64 x.a, .int .i64 x.b, .int .i64 x.c, .int .i64 x.d, .int .i64 y.a, .int .i64 y.b, .int .i64 y.c, .int .i64 y.d, .int .i64 fl, .slice Q q cq], .slice L tn tc]) (by simp [results, Tryz.results41, go_sem, r0, r1, r2, r3, r4, r5, r6, r7, r8, r9, r10, r11, r12, r13]) rfl ⟨P, A, Z, pn, pc, n, c, m, cz, ps, vs, Y, p, cp, ts, Q, q, cq, us, x, y, fl, L, tn, tc, l, rfl, FIN.out.1.1, ⟨_, FIN.out.2⟩, by omega, FIN.out.1.2⟩
      · go_wp2
        go_loopw [6] (fun lv wr => ∃ (L : Option Addr) (tn tc : Nat) (l : List TabD), tn ≤ 21 ∧ lv = .slice L tn tc ∧ Hid (DAs_ w0.heap.size (w.heap.size + 1) wc wr (2000 + 4 * tn) L tn tc l)) (fun lv _ => 22 - lenV lv)
        case atStart => exact ⟨L, tn, tc, l, htn, rfl, HS4⟩
        case round =>
          clear HS4 htn
          obtain ⟨L, tn, tc, l, htn, rfl, HS⟩ := hrel
          have hzr := HS.out.ch.size
          go_wp2_with fail
          refine (pick_any _ _ _ _ HS.out.cu (by omega) (by omega)).mono ?_
          rintro e w4 ⟨v, rfl, hv0, hv1, hc4, hg4⟩
          have hv2 : v < 2 := by split at hv1 <;> omega
          clear hv1
          have z4 := hg4.size
          have HS4 : Hid (DAs_ w0.heap.size (w.heap.size + 1) wc w4 (2000 + 4 * (tn + 1)) L tn tc l) := Lib.hid ⟨hc4.mono (by omega), HS.out.ch.trans hg4, HS.out.dl.chg hg4 (by omega), HS.out.rw⟩
          clear HS hc4 hg4
          by_cases hm : (tn : Int) < 20 + v
          · have hd : decide ((tn : Int) < 20 + v) = true := by simpa using hm
            obtain ⟨ys, hoy⟩ := HS4.out.dl.rows
            go_wp2_with (at_builtin; refine wp_appG (cs := #[.int .i64 0, .slice none 0 0, .slice none 0 0, .int .i64 0]) rfl _ _ rfl Tryz.underlying39 hi hz0 hz1 hz2 rfl (by omega) (by omega) rfl (by simp [Value.oneCell']) w0.heap.size L tn tc ys rfl hoy _ rfl (by simp) (by omega) (by omega) ?_; intro L7 c7 w7 own7 grow7 row7; have HS7 := Lib.hid (HS4.out.snoc (t := tab0) (by omega) (by omega) hoy ⟨Own.nil_, (fun k hk => by cases hk), by omega⟩ ⟨Own.nil_, (fun k hk => by cases hk), by omega⟩ grow7 own7 row7))
            go_roundw
            case rel => exact ⟨L7, tn + 1, c7, l ++ [tab0], by omega, by go_num, HS7⟩
            case measure => simp [lenV]; omega
          · have hd : decide ((tn : Int) < 20 + v) = false := by simpa using hm
            clear hm
            have XB4 := Lib.hid (box_chg XB.out HS4.out.ch (by omega))
            have XR4 := Lib.hid (box_chg XR.out HS4.out.ch (by omega))
            have HO4 := Lib.hid ((HO.out.chg HS4.out.ch (by omega)).mono (show w.heap.size ≤ w0.heap.size by omega))
            have HB4 := Lib.hid ((HG.out.trans HS4.out.ch).to_below (Nat.le_succ _))
            have lb4 := lt_of_block XB4.out
            have lr4 := lt_of_block XR4.out
            have k4_0 := bxc XB4.out 0 (.slice P pn pc) rfl
            have k4_1 := bxc XB4.out 1 (.slice A n c) rfl
            have k4_2 := bxc XB4.out 2 (.slice Z m cz) rfl
            have k4_3 := bxc XB4.out 3 (.slice Y p cp) rfl
            have k4_4 := bxc XB4.out 4 (.int .i64 x.a) rfl
            have k4_5 := bxc XB4.out 5 (.int .i64 x.b) rfl
            have k4_6 := bxc XB4.out 6 (.int .i64 x.c) rfl
            have k4_7 := bxc XB4.out 7 (.int .i64 x.d) rfl
            have k4_8 := bxc XB4.out 8 (.int .i64 y.a) rfl
            have k4_9 := bxc XB4.out 9 (.int .i64 y.b) rfl
            have k4_10 := bxc XB4.out 10 (.int .i64 y.c) rfl
            have k4_11 := bxc XB4.out 11 (.int .i64 y.d) rfl
            have k4_12 := bxc XB4.out 12 (.int .i64 fl) rfl
            have k4_13 := bxc XB4.out 13 (.slice Q q cq) rfl
            have p0 := bxc XR4.out 0 _ rfl
            have g0 := bxf XR4.out 0
            have p1 := bxc XR4.out 1 _ rfl
            have g1 := bxf XR4.out 1
            have p2 := bxc XR4.out 2 _ rfl
            have g2 := bxf XR4.out 2
            have p3 := bxc XR4.out 3 _ rfl
            have g3 := bxf XR4.out 3
            have p4 := bxc XR4.out 4 _ rfl
            have g4 := bxf XR4.out 4
            have p5 := bxc XR4.out 5 _ rfl
            have g5 := bxf XR4.out 5
            have p6 := bxc XR4.out 6 _ rfl
            have g6 := bxf XR4.out 6
            have p7 := bxc XR4.out 7 _ rfl
            have g7 := bxf XR4.out 7
            have p8 := bxc XR4.out 8 _ rfl
            have g8 := bxf XR4.out 8
            have p9 := bxc XR4.out 9 _ rfl
            have g9 := bxf XR4.out 9
            have p10 := bxc XR4.out 10 _ rfl
            have g10 := bxf XR4.out 10
            have p11 := bxc XR4.out 11 _ rfl
            have g11 := bxf XR4.out 11
            have p12 := bxc XR4.out 12 _ rfl
            have g12 := bxf XR4.out 12
            have p13 := bxc XR4.out 13 _ rfl
            have g13 := bxf XR4.out 13
            have RX := Lib.hid (fill14n (y0 := .slice P pn pc) (y1 := .slice A n c) (y2 := .slice Z m cz) (y3 := .slice Y p cp) (y4 := .int .i64 x.a) (y5 := .int .i64 x.b) (y6 := .int .i64 x.c) (y7 := .int .i64 x.d) (y8 := .int .i64 y.a) (y9 := .int .i64 y.b) (y10 := .int .i64 y.c) (y11 := .int .i64 y.d) (y12 := .int .i64 fl) (y13 := .slice Q q cq) XR4.out)
            have r0 := bxc RX.out 0 (.slice P pn pc) rfl
            have r1 := bxc RX.out 1 (.slice A n c) rfl
            have r2 := bxc RX.out 2 (.slice Z m cz) rfl
            have r3 := bxc RX.out 3 (.slice Y p cp) rfl
            have r4 := bxc RX.out 4 (.int .i64 x.a) rfl
            have r5 := bxc RX.out 5 (.int .i64 x.b) rfl
            have r6 := bxc RX.out 6 (.int .i64 x.c) rfl
            have r7 := bxc RX.out 7 (.int .i64 x.d) rfl
            have r8 := bxc RX.out 8 (.int .i64 y.a) rfl
            have r9 := bxc RX.out 9 (.int .i64 y.b) rfl
            have r10 := bxc RX.out 10 (.int .i64 y.c) rfl
            have r11 := bxc RX.out 11 (.int .i64 y.d) rfl
            have r12 := bxc RX.out 12 (.int .i64 fl) rfl
            have r13 := bxc RX.out 13 (.slice Q q cq) rfl
            have F1 := HO4.out.fill XR4.out HB4.out (Nat.le_refl _)
            have F2 := HS4.out.dl.off XR4.out (by decide) (by decide) (fun j hj => puts_ne (g := w.heap.size) [(0, .slice P pn pc), (1, .slice A n c), (2, .slice Z m cz), (3, .slice Y p cp), (4, .int .i64 x.a), (5, .int .i64 x.b), (6, .int .i64 x.c), (7, .int .i64 x.d), (8, .int .i64 y.a), (9, .int .i64 y.b), (10, .int .i64 y.c), (11, .int .i64 y.d), (12, .int .i64 fl), (13, .slice Q q cq)] w4 hj) (puts_size (g := w.heap.size) [(0, .slice P pn pc), (1, .slice A n c), (2, .slice Z m cz), (3, .slice Y p cp), (4, .int .i64 x.a), (5, .int .i64 x.b), (6, .int .i64 x.c), (7, .int .i64 x.d), (8, .int .i64 y.a), (9, .int .i64 y.b), (10, .int .i64 y.c), (11, .int .i64 y.d), (12, .int .i64 fl), (13, .slice Q q cq)] w4)
            rw [puts14] at F2
            have FIN := Lib.hid (And.intro F1 F2)
            clear F1 F2 XB4 XR4 HO4 HB4 RX HS4
            go_wp2
            exact bodyPost_ret (v := .tuple #[.agg #[.slice P pn pc, .slice A n c, .slice Z m cz, .slice Y p cp, .int .i64 x.a, .int .i64 x.b, .int .i64 x.c, .int .i64 x.d, .int .i64 y.a, .int .i64 y.b, .int .i64 y.c, .int .i64 y.d, .int .i64 fl, .slice Q q cq], .slice L tn tc]) (by simp [results, Tryz.results41, go_sem, r0, r1, r2, r3, r4, r5, r6, r7, r8, r9, r10, r11, r12, r13]) rfl ⟨P, A, Z, pn, pc, n, c, m, cz, ps, vs, Y, p, cp, ts, Q, q, cq, us, x, y, fl, L, tn, tc, l, rfl, FIN.out.1.1, ⟨_, FIN.out.2⟩, by omega, FIN.out.1.2⟩
end Go.Proofs.YtfanpbfmnckmnaaGreat
