/- Several small texts in one: DgO, DgS. -/
import Derived.Test.YtfanpbfmnckmnaaGreatDgV
import Derived.Deep.CutBlock
import Derived.Test.YtfanpbfmnckmnaaGreatYu
namespace Go.Proofs.YtfanpbfmnckmnaaGreat

section
open Go.RowKit

/-- Behind the queries. -/
def SvL (w0 : World) (g L b : Nat) (P A Z : Option Addr) (pn pc n c m cz : Nat) (ps : List Int) (vs : List (ByteArray × Int)) (Y : Option Addr) (p cp : Nat) (ts : List TabD) (x y : LosD) (fl : Int) (v : Value) (wx : World) : Prop := v = .pointer (some ⟨b, 0, none⟩) ∧ ∃ (Q : Option Addr) (q cq : Nat) (us : List TabD), SvU w0 wx g L b w0.heap.size P A Z pn pc n c m cz ps vs Y p cp ts Q q cq us x y fl
theorem asked_ok {D : SvD} {t : TabD} {q q2 : Nat} (h : ∀ j, j < q → tabB D.par D.vs (tX D.asked j) = true) (hl : D.asked.length = q) (h2 : (askedV D t).length = q2) : q2 ≤ q + 1 ∧ ∀ j, j < q2 → tabB D.par D.vs (tX (askedV D t) j) = true := by
  by_cases h0 : codeV D D.asked t = 0
  · by_cases h1 : fndT D.asked t < 0
    · rw [asked_2 h0 h1] at h2 ⊢
      simp only [List.length_append, List.length_singleton] at h2
      refine ⟨by omega, fun j hj => ?_⟩
      rcases Nat.lt_or_ge j D.asked.length with h3 | h3
      · rw [tX_old h3]; exact h j (by omega)
      · obtain rfl : j = D.asked.length := by omega
        rw [tX_new]; exact code0_tab h0
    · rw [asked_3 h0 h1] at h2 ⊢
      exact ⟨by omega, fun j hj => h j (by omega)⟩
  · rw [asked_1 h0] at h2 ⊢
    exact ⟨by omega, fun j hj => h j (by omega)⟩

theorem server_ask {w0 w5 : World} {g L b q : Nat} {P A Z : Option Addr} {pn pc n c m cz : Nat} {ps : List Int} {vs : List (ByteArray × Int)} {Y : Option Addr} {p cp : Nat} {ts : List TabD} {Q : Option Addr} {cq : Nat} {us : List TabD} {x y : LosD} {fl : Int} {t : TabD} {V U : Option Addr} {mt d kt et : Nat} (S5 : SvU w0 w5 g L b w0.heap.size P A Z pn pc n c m cz ps vs Y p cp ts Q q cq us x y fl) (ht : TabR w5 V mt U kt t) (hq : q ≤ 20) :
    Calls Tryz.prog 93 #[.agg #[.slice P pn pc, .slice A n c, .slice Z m cz, .slice Y p cp, .int .i64 x.a, .int .i64 x.b, .int .i64 x.c, .int .i64 x.d, .int .i64 y.a, .int .i64 y.b, .int .i64 y.c, .int .i64 y.d, .int .i64 fl, .slice Q q cq], .agg #[.int .i64 t.lv, .slice V mt d, .slice U kt et, .int .i64 t.sum]] w5 fun e w6 => ∃ (Q2 : Option Addr) (q2 cq2 : Nat) (us2 : List TabD) (B : Option Addr) (nb cB : Nat) (kk : Int), e = .returned (.tuple #[.agg #[.slice P pn pc, .slice A n c, .slice Z m cz, .slice Y p cp, .int .i64 x.a, .int .i64 x.b, .int .i64 x.c, .int .i64 x.d, .int .i64 y.a, .int .i64 y.b, .int .i64 y.c, .int .i64 y.d, .int .i64 fl, .slice Q2 q2 cq2], .slice B nb cB, .int .i64 kk]) ∧ q2 ≤ q + 1 ∧ SvU w0 w6 g L b w0.heap.size P A Z pn pc n c m cz ps vs Y p cp ts Q q cq us x y fl ∧ SvU w0 (((((((((((((((w6).setCell ⟨b, 0, none⟩ (.slice P pn pc)).setCell ⟨b, 1, none⟩ (.slice A n c)).setCell ⟨b, 2, none⟩ (.slice Z m cz)).setCell ⟨b, 3, none⟩ (.slice Y p cp)).setCell ⟨b, 4, none⟩ (.int .i64 x.a)).setCell ⟨b, 5, none⟩ (.int .i64 x.b)).setCell ⟨b, 6, none⟩ (.int .i64 x.c)).setCell ⟨b, 7, none⟩ (.int .i64 x.d)).setCell ⟨b, 8, none⟩ (.int .i64 y.a)).setCell ⟨b, 9, none⟩ (.int .i64 y.b)).setCell ⟨b, 10, none⟩ (.int .i64 y.c)).setCell ⟨b, 11, none⟩ (.int .i64 y.d)).setCell ⟨b, 12, none⟩ (.int .i64 fl)).setCell ⟨b, 13, none⟩ (.slice Q2 q2 cq2)) g L b w0.heap.size P A Z pn pc n c m cz ps vs Y p cp ts Q2 q2 cq2 us2 x y fl := by
  obtain ⟨rs, hrs⟩ := S5.sv.ok
  obtain ⟨hO, hR⟩ := hrs (⟨ps, vs, rs, ts, x, y, fl, us⟩ : SvD) rfl rfl rfl
  have h1 := S5.hpl
  have h2 := S5.haq
  refine (jAsk_any P A Z Y Q pn pc n c m cz p cp q cq (⟨ps, vs, rs, ts, x, y, fl, us⟩ : SvD) V U mt d kt et t w0.heap.size w5 hO S5.hx S5.hy S5.ok hR ht (S5.st.pl.tabs (by omega)) S5.st.aq S5.st.ch.size (by omega)).mono ?_
  rintro e w6 ⟨Q2, q2, cq2, B, nb, cB, rfl, hD, _, b6, hr, _⟩
  have S6 := S5.below b6
  have ho := asked_ok (D := (⟨ps, vs, rs, ts, x, y, fl, us⟩ : SvD)) (t := t) S5.ok S5.st.aq.len hD.len
  refine ⟨Q2, q2, cq2, _, B, nb, cB, _, rfl, ho.1, S6, S6.asked hD (fun r hy he => ?_) ho.2 (by omega)⟩
  rcases hr r he with h3 | h3
  · exact S5.st.ap r hy h3
  · have := (S5.st.pl.row_ge r hy).2
    omega

set_option maxRecDepth 100000 in
set_option maxHeartbeats 16000000 in
theorem server_any (g L : Nat) (w : World) (h : Cur w g L) (hL : L ≤ 90000) :
    Calls Tryz.prog 95 #[.pointer (some ⟨g, 0, none⟩)] w (DSv g (L + 1000) w) := by
  obtain ⟨i0, hi, hz0, hz1, hz2⟩ := info_parts Tryz.infoTable
  have hlt := h.lt
  have b0 := below_new w (.cells #[.slice none 0 0, .slice none 0 0, .slice none 0 0, .slice none 0 0, .int .i64 0, .int .i64 0, .int .i64 0, .int .i64 0, .int .i64 0, .int .i64 0, .int .i64 0, .int .i64 0, .int .i64 0, .slice none 0 0] 44)
  have xr := box_new w #[.slice none 0 0, .slice none 0 0, .slice none 0 0, .slice none 0 0, .int .i64 0, .int .i64 0, .int .i64 0, .int .i64 0, .int .i64 0, .int .i64 0, .int .i64 0, .int .i64 0, .int .i64 0, .slice none 0 0] 44
  have hc0 := h.below b0
  have hG0 : Chg g (g + 1) w (w.alloc (.cells #[.slice none 0 0, .slice none 0 0, .slice none 0 0, .slice none 0 0, .int .i64 0, .int .i64 0, .int .i64 0, .int .i64 0, .int .i64 0, .int .i64 0, .int .i64 0, .int .i64 0, .int .i64 0, .slice none 0 0] 44)) := Chg.of_below b0
  have z0 : w.heap.size < (w.alloc (.cells #[.slice none 0 0, .slice none 0 0, .slice none 0 0, .slice none 0 0, .int .i64 0, .int .i64 0, .int .i64 0, .int .i64 0, .int .i64 0, .int .i64 0, .int .i64 0, .int .i64 0, .int .i64 0, .slice none 0 0] 44)).heap.size := by simp
  clear h b0
  go_enter Tryz.func95, Tryz.ntmps95
  go_wp2_with fail
  generalize w.alloc (.cells #[.slice none 0 0, .slice none 0 0, .slice none 0 0, .slice none 0 0, .int .i64 0, .int .i64 0, .int .i64 0, .int .i64 0, .int .i64 0, .int .i64 0, .int .i64 0, .int .i64 0, .int .i64 0, .slice none 0 0] 44) = w1 at *
  refine (planned_any g _ _ hc0 (by omega)).mono ?_
  rintro e w2 ⟨P, A, Z, pn, pc, n, c, m, cz, ps, vs, Y, p, cp, ts, x, y, fl, rfl, hSV, hPl, hp8, hxo, hyo, hf0, hf1, hc2, hg2⟩
  have z2 := hg2.size
  have b3 := below_new w2 (.cells #[.slice P pn pc, .slice A n c, .slice Z m cz, .slice Y p cp, .int .i64 x.a, .int .i64 x.b, .int .i64 x.c, .int .i64 x.d, .int .i64 y.a, .int .i64 y.b, .int .i64 y.c, .int .i64 y.d, .int .i64 fl, .slice none 0 0] 44)
  have hS3 : SvU w (w2.alloc (.cells #[.slice P pn pc, .slice A n c, .slice Z m cz, .slice Y p cp, .int .i64 x.a, .int .i64 x.b, .int .i64 x.c, .int .i64 x.d, .int .i64 y.a, .int .i64 y.b, .int .i64 y.c, .int .i64 y.d, .int .i64 fl, .slice none 0 0] 44)) g (L + 900) w2.heap.size w.heap.size P A Z pn pc n c m cz ps vs Y p cp ts none 0 0 [] x y fl :=
    ⟨⟨hc2.below b3, (hG0.trans hg2).then_ b3, (hPl.below b3).mono (by omega), DTl.nil_, (fun r hr h2 => by cases h2), box_new _ _ _, by omega, hlt⟩, (hSV.below b3).mono (by omega), bxb (box_chg xr hg2 (by omega)) b3, ⟨by omega, Nat.le_refl _⟩, hxo, hyo, (fun j hj => absurd hj (by omega)), hp8, by omega⟩
  have lz3 : w2.heap.size < (w2.alloc (.cells #[.slice P pn pc, .slice A n c, .slice Z m cz, .slice Y p cp, .int .i64 x.a, .int .i64 x.b, .int .i64 x.c, .int .i64 x.d, .int .i64 y.a, .int .i64 y.b, .int .i64 y.c, .int .i64 y.d, .int .i64 fl, .slice none 0 0] 44)).heap.size := by simp
  clear hc0 hG0 hg2 hSV hPl hc2 b3 xr hxo hyo
  go_wp2_with fail
  generalize w2.alloc (.cells #[.slice P pn pc, .slice A n c, .slice Z m cz, .slice Y p cp, .int .i64 x.a, .int .i64 x.b, .int .i64 x.c, .int .i64 x.d, .int .i64 y.a, .int .i64 y.b, .int .i64 y.c, .int .i64 y.d, .int .i64 fl, .slice none 0 0] 44) = w3 at *
  obtain ⟨b, hb⟩ : ∃ b, Hid (w2.heap.size = b) := ⟨_, Lib.hid rfl⟩
  rw [hb.out] at hS3 lz3 ⊢
  refine (pick_any g _ 4 _ hS3.st.cu (by omega) (by omega)).mono ?_
  rintro e w4 ⟨v, rfl, v0, v1, hc4, hg4⟩
  replace v1 : v ≤ 3 := by simpa using v1
  obtain ⟨kk, rfl⟩ := Int.eq_ofNat_of_zero_le v0
  have hk4 : kk ≤ 3 := by omega
  have S4 := hS3.chg hc4 hg4
  clear hS3 hc4 hg4 v0 v1
  go_upto_block 0 with (fail)
  go_cut [3] (fun v3 wx => SvL w g (L + 950) b P A Z pn pc n c m cz ps vs Y p cp ts x y fl v3 wx)
  case first =>
    go_wp2_with fail
    go_loopw [4] (fun i wr => ∃ (k : Nat) (Q : Option Addr) (q cq : Nat) (us : List TabD), i = .int .i64 k ∧ k ≤ 3 ∧ q + k ≤ 3 ∧ SvU w wr g (L + 910 + 4 * (3 - k)) b w.heap.size P A Z pn pc n c m cz ps vs Y p cp ts Q q cq us x y fl) (fun i _ => (intOf i).toNat)
    case atStart => exact ⟨kk, none, 0, 0, [], rfl, hk4, by omega, S4.mono (by omega)⟩
    case round =>
      clear S4 hk4
      obtain ⟨k, Q, q, cq, us, rfl, hk, hqk, hS⟩ := hrel
      obtain ⟨wo, rfl⟩ : ∃ wo : World, wo = wr := ⟨_, rfl⟩
      have HS := Lib.hid hS
      have lb := lt_of_block hS.st.bx
      have cb0 := bxc hS.st.bx 0 (.slice P pn pc) rfl; have cb1 := bxc hS.st.bx 1 (.slice A n c) rfl; have cb2 := bxc hS.st.bx 2 (.slice Z m cz) rfl; have cb3 := bxc hS.st.bx 3 (.slice Y p cp) rfl; have cb4 := bxc hS.st.bx 4 (.int .i64 x.a) rfl; have cb5 := bxc hS.st.bx 5 (.int .i64 x.b) rfl; have cb6 := bxc hS.st.bx 6 (.int .i64 x.c) rfl; have cb7 := bxc hS.st.bx 7 (.int .i64 x.d) rfl; have cb8 := bxc hS.st.bx 8 (.int .i64 y.a) rfl; have cb9 := bxc hS.st.bx 9 (.int .i64 y.b) rfl; have cb10 := bxc hS.st.bx 10 (.int .i64 y.c) rfl; have cb11 := bxc hS.st.bx 11 (.int .i64 y.d) rfl; have cb12 := bxc hS.st.bx 12 (.int .i64 fl) rfl; have cb13 := bxc hS.st.bx 13 (.slice Q q cq) rfl
      by_cases h0 : 0 < k
      · have hd : decide ((0 : Int) < (k : Int)) = true := by simpa using h0
        by_cases hp0 : 0 < p
        · have hdp : decide ((0 : Int) < (p : Int)) = true := by simpa using hp0
          obtain ⟨ad, rfl, _⟩ := (hS.st.pl.tabs (by have h1 := hS.hpl; omega)).at_ (j := 0) hp0
          have hcd : Cur wo.drew g (L + 910 + 4 * (3 - k)) := hS.st.cu
          have hpk := Lib.hid (pick_any g _ p _ hcd (by omega) (by omega))
          clear hS
          go_wp2_with fail
          go_region_law ((first | (go_simp; go_at_call 85; refine hpk.out.mono ?_; rintro e w5 ⟨v, rfl, hv0, hv1, hc5, hg5⟩; have hv2 : v < p := (by split at hv1 <;> omega); clear hv1; obtain ⟨vn, rfl⟩ := Int.eq_ofNat_of_zero_le hv0; have S5 := Lib.hid (HS.out.chg hc5 ((Chg.of_below (Below.refl _ _).drew).trans hg5)); have lb5 := lt_of_block S5.out.st.bx; have c5_0 := bxc S5.out.st.bx 0 (.slice P pn pc) rfl; have c5_1 := bxc S5.out.st.bx 1 (.slice A n c) rfl; have c5_2 := bxc S5.out.st.bx 2 (.slice Z m cz) rfl; have c5_3 := bxc S5.out.st.bx 3 (.slice (some ad) p cp) rfl; have c5_4 := bxc S5.out.st.bx 4 (.int .i64 x.a) rfl; have c5_5 := bxc S5.out.st.bx 5 (.int .i64 x.b) rfl; have c5_6 := bxc S5.out.st.bx 6 (.int .i64 x.c) rfl; have c5_7 := bxc S5.out.st.bx 7 (.int .i64 x.d) rfl; have c5_8 := bxc S5.out.st.bx 8 (.int .i64 y.a) rfl; have c5_9 := bxc S5.out.st.bx 9 (.int .i64 y.b) rfl; have c5_10 := bxc S5.out.st.bx 10 (.int .i64 y.c) rfl; have c5_11 := bxc S5.out.st.bx 11 (.int .i64 y.d) rfl; have c5_12 := bxc S5.out.st.bx 12 (.int .i64 fl) rfl; have c5_13 := bxc S5.out.st.bx 13 (.slice Q q cq) rfl; obtain ⟨ad2, had, V, mt, d, U, kt, et, e0, e1, e2, e3, ht⟩ := (S5.out.st.pl.tabs (by have h1 := S5.out.hpl; omega)).at_ (j := vn) (by omega); have HT := Lib.hid ht; clear ht hc5 hg5; obtain rfl : ad = ad2 := (by injection had); clear had; dsimp only) | (go_simp; go_at_call 93; refine (server_ask (t := tX ts vn) (V := V) (U := U) (mt := mt) (d := d) (kt := kt) (et := et) S5.out HT.out (by omega)).mono ?_; rintro e w6 ⟨Q2, q2, cq2, us2, B, nb, cB, kk2, rfl, hq2, S6, S7⟩; have HS7 := Lib.hid S7; have lb6 := lt_of_block S6.st.bx; have c6_0 := bxc S6.st.bx 0 (.slice P pn pc) rfl; have f6_0 := bxf S6.st.bx 0; have c6_1 := bxc S6.st.bx 1 (.slice A n c) rfl; have f6_1 := bxf S6.st.bx 1; have c6_2 := bxc S6.st.bx 2 (.slice Z m cz) rfl; have f6_2 := bxf S6.st.bx 2; have c6_3 := bxc S6.st.bx 3 (.slice (some ad) p cp) rfl; have f6_3 := bxf S6.st.bx 3; have c6_4 := bxc S6.st.bx 4 (.int .i64 x.a) rfl; have f6_4 := bxf S6.st.bx 4; have c6_5 := bxc S6.st.bx 5 (.int .i64 x.b) rfl; have f6_5 := bxf S6.st.bx 5; have c6_6 := bxc S6.st.bx 6 (.int .i64 x.c) rfl; have f6_6 := bxf S6.st.bx 6; have c6_7 := bxc S6.st.bx 7 (.int .i64 x.d) rfl; have f6_7 := bxf S6.st.bx 7; have c6_8 := bxc S6.st.bx 8 (.int .i64 y.a) rfl; have f6_8 := bxf S6.st.bx 8; have c6_9 := bxc S6.st.bx 9 (.int .i64 y.b) rfl; have f6_9 := bxf S6.st.bx 9; have c6_10 := bxc S6.st.bx 10 (.int .i64 y.c) rfl; have f6_10 := bxf S6.st.bx 10; have c6_11 := bxc S6.st.bx 11 (.int .i64 y.d) rfl; have f6_11 := bxf S6.st.bx 11; have c6_12 := bxc S6.st.bx 12 (.int .i64 fl) rfl; have f6_12 := bxf S6.st.bx 12; have c6_13 := bxc S6.st.bx 13 (.slice Q q cq) rfl; have f6_13 := bxf S6.st.bx 13; clear S6 S7; dsimp only) | fail))
          all_goals (clear cb0 c5_0 c6_0 f6_0 cb1 c5_1 c6_1 f6_1 cb2 c5_2 c6_2 f6_2 cb3 c5_3 c6_3 f6_3 cb4 c5_4 c6_4 f6_4 cb5 c5_5 c6_5 f6_5 cb6 c5_6 c6_6 f6_6 cb7 c5_7 c6_7 f6_7 cb8 c5_8 c6_8 f6_8 cb9 c5_9 c6_9 f6_9 cb10 c5_10 c6_10 f6_10 cb11 c5_11 c6_11 f6_11 cb12 c5_12 c6_12 f6_12 cb13 c5_13 c6_13 f6_13 hpk hcd lb lb5 lb6 HT HS S5 e0 e1 e2 e3)
          all_goals go_wp2
          all_goals go_roundw
          all_goals (first | exact ⟨k - 1, Q2, q2, cq2, us2, by go_num, by omega, by omega, HS7.out.mono (by omega)⟩ | (simp [intOf]; omega))
        · obtain rfl : p = 0 := by omega
          have hp00 : decide ((0 : Int) < ((0 : Nat) : Int)) = false := by simp
          clear HS
          go_wp2
          go_meet
          exact ⟨rfl, Q, q, cq, us, hS.mono (by omega)⟩
      · obtain rfl : k = 0 := by omega
        clear HS h0
        go_wp2
        go_meet
        exact ⟨rfl, Q, q, cq, us, hS.mono (by omega)⟩
  case rest =>
    obtain ⟨rfl, Q, q, cq, us, hS⟩ := hcut
    rename_i K HK
    exact HK _ _ (server_rest g L b w wc P A Z pn pc n c m cz ps vs Y p cp ts Q q cq us x y fl _ _ _ _ _ _ _ _ _ _ _ _ _ _ _ _ _ _ _ _ _ _ _ _ _ _ _ _ _ _ _ _ _ _ _ _ _ _ _ _ _ _ _ _ _ _ _ _ _ _ _ _ _ _ _ _ _ _ _ _ _ _ _ _ _ _ hL hlt hp8 hS)
end

section
open Go.RowKit

/-- A drawn server, of a top draw. -/
def DIs (w : World) (e : Ending) (w' : World) : Prop := ∃ (P A Z : Option Addr) (pn pc n c m cz : Nat) (ps : List Int) (vs : List (ByteArray × Int)) (Y : Option Addr) (p cp : Nat) (ts : List TabD) (Q : Option Addr) (q cq : Nat) (us : List TabD) (x y : LosD) (fl : Int), e = .returned (.agg #[.slice P pn pc, .slice A n c, .slice Z m cz, .slice Y p cp, .int .i64 x.a, .int .i64 x.b, .int .i64 x.c, .int .i64 x.d, .int .i64 y.a, .int .i64 y.b, .int .i64 y.c, .int .i64 y.d, .int .i64 fl, .slice Q q cq]) ∧ SvO w' w.heap.size P A Z pn pc n c m cz ps vs Y p cp ts Q q cq us x y fl ∧ Below w.heap.size w w'
/-- A drawn server and a table. -/
def DQc (w : World) (e : Ending) (w' : World) : Prop := ∃ (P A Z : Option Addr) (pn pc n c m cz : Nat) (ps : List Int) (vs : List (ByteArray × Int)) (Y : Option Addr) (p cp : Nat) (ts : List TabD) (Q : Option Addr) (q cq : Nat) (us : List TabD) (x y : LosD) (fl : Int) (V : Option Addr) (tm td : Nat) (U : Option Addr) (tk te : Nat) (t : TabD), e = .returned (.tuple #[.agg #[.slice P pn pc, .slice A n c, .slice Z m cz, .slice Y p cp, .int .i64 x.a, .int .i64 x.b, .int .i64 x.c, .int .i64 x.d, .int .i64 y.a, .int .i64 y.b, .int .i64 y.c, .int .i64 y.d, .int .i64 fl, .slice Q q cq], .agg #[.int .i64 t.lv, .slice V tm td, .slice U tk te, .int .i64 t.sum]]) ∧ SvO w' w.heap.size P A Z pn pc n c m cz ps vs Y p cp ts Q q cq us x y fl ∧ OwnI w' w.heap.size w'.heap.size V tm td t.vars ∧ OwnI w' w.heap.size w'.heap.size U tk te t.wh ∧ Below w.heap.size w w'
theorem SvO.fill {w0 w : World} {B lo r : Nat} {z0 z1 z2 z3 z4 z5 z6 z7 z8 z9 z10 z11 z12 z13 : Value} {P A Z : Option Addr} {pn pc n c m cz : Nat} {ps : List Int} {vs : List (ByteArray × Int)} {Y : Option Addr} {p cp : Nat} {ts : List TabD} {Q : Option Addr} {q cq : Nat} {us : List TabD} {x y : LosD} {fl : Int} (hx : w.heap[r]? = some (.cells #[z0, z1, z2, z3, z4, z5, z6, z7, z8, z9, z10, z11, z12, z13] 44 (0, 0))) (h : SvO w lo P A Z pn pc n c m cz ps vs Y p cp ts Q q cq us x y fl) (hB : Below B w0 w) (hr : B ≤ r) : SvO (((((((((((((((w).setCell ⟨r, 0, none⟩ (.slice P pn pc)).setCell ⟨r, 1, none⟩ (.slice A n c)).setCell ⟨r, 2, none⟩ (.slice Z m cz)).setCell ⟨r, 3, none⟩ (.slice Y p cp)).setCell ⟨r, 4, none⟩ (.int .i64 x.a)).setCell ⟨r, 5, none⟩ (.int .i64 x.b)).setCell ⟨r, 6, none⟩ (.int .i64 x.c)).setCell ⟨r, 7, none⟩ (.int .i64 x.d)).setCell ⟨r, 8, none⟩ (.int .i64 y.a)).setCell ⟨r, 9, none⟩ (.int .i64 y.b)).setCell ⟨r, 10, none⟩ (.int .i64 y.c)).setCell ⟨r, 11, none⟩ (.int .i64 y.d)).setCell ⟨r, 12, none⟩ (.int .i64 fl)).setCell ⟨r, 13, none⟩ (.slice Q q cq)) lo P A Z pn pc n c m cz ps vs Y p cp ts Q q cq us x y fl ∧ Below B w0 (((((((((((((((w).setCell ⟨r, 0, none⟩ (.slice P pn pc)).setCell ⟨r, 1, none⟩ (.slice A n c)).setCell ⟨r, 2, none⟩ (.slice Z m cz)).setCell ⟨r, 3, none⟩ (.slice Y p cp)).setCell ⟨r, 4, none⟩ (.int .i64 x.a)).setCell ⟨r, 5, none⟩ (.int .i64 x.b)).setCell ⟨r, 6, none⟩ (.int .i64 x.c)).setCell ⟨r, 7, none⟩ (.int .i64 x.d)).setCell ⟨r, 8, none⟩ (.int .i64 y.a)).setCell ⟨r, 9, none⟩ (.int .i64 y.b)).setCell ⟨r, 10, none⟩ (.int .i64 y.c)).setCell ⟨r, 11, none⟩ (.int .i64 y.d)).setCell ⟨r, 12, none⟩ (.int .i64 fl)).setCell ⟨r, 13, none⟩ (.slice Q q cq)) := by
  rw [← puts14]
  exact ⟨h.keepB hx (by decide) (by decide) (by decide) (by decide) (fun j hj => puts_ne _ w hj) (puts_size _ w), puts_below _ _ hB hr⟩
theorem SvO.fill4 {w0 w : World} {B lo r : Nat} {cs : Array Value} {P A Z : Option Addr} {pn pc n c m cz : Nat} {ps : List Int} {vs : List (ByteArray × Int)} {Y : Option Addr} {p cp : Nat} {ts : List TabD} {Q : Option Addr} {q cq : Nat} {us : List TabD} {x y : LosD} {fl : Int} {V : Option Addr} {tm td : Nat} {U : Option Addr} {tk te : Nat} {t : TabD} (hx : w.heap[r]? = some (.cells cs 56 (0, 0))) (h : SvO w lo P A Z pn pc n c m cz ps vs Y p cp ts Q q cq us x y fl) (hp : rowOf Y ≠ some r) (hq : rowOf Q ≠ some r) (oV : OwnI w lo w.heap.size V tm td t.vars) (oU : OwnI w lo w.heap.size U tk te t.wh) (hB : Below B w0 w) (hr : B ≤ r) :
    SvO (((((w).setCell ⟨r, 0, none⟩ (.int .i64 t.lv)).setCell ⟨r, 1, none⟩ (.slice V tm td)).setCell ⟨r, 2, none⟩ (.slice U tk te)).setCell ⟨r, 3, none⟩ (.int .i64 t.sum)) lo P A Z pn pc n c m cz ps vs Y p cp ts Q q cq us x y fl ∧ OwnI (((((w).setCell ⟨r, 0, none⟩ (.int .i64 t.lv)).setCell ⟨r, 1, none⟩ (.slice V tm td)).setCell ⟨r, 2, none⟩ (.slice U tk te)).setCell ⟨r, 3, none⟩ (.int .i64 t.sum)) lo (((((w).setCell ⟨r, 0, none⟩ (.int .i64 t.lv)).setCell ⟨r, 1, none⟩ (.slice V tm td)).setCell ⟨r, 2, none⟩ (.slice U tk te)).setCell ⟨r, 3, none⟩ (.int .i64 t.sum)).heap.size V tm td t.vars ∧ OwnI (((((w).setCell ⟨r, 0, none⟩ (.int .i64 t.lv)).setCell ⟨r, 1, none⟩ (.slice V tm td)).setCell ⟨r, 2, none⟩ (.slice U tk te)).setCell ⟨r, 3, none⟩ (.int .i64 t.sum)) lo (((((w).setCell ⟨r, 0, none⟩ (.int .i64 t.lv)).setCell ⟨r, 1, none⟩ (.slice V tm td)).setCell ⟨r, 2, none⟩ (.slice U tk te)).setCell ⟨r, 3, none⟩ (.int .i64 t.sum)).heap.size U tk te t.wh ∧ Below B w0 (((((w).setCell ⟨r, 0, none⟩ (.int .i64 t.lv)).setCell ⟨r, 1, none⟩ (.slice V tm td)).setCell ⟨r, 2, none⟩ (.slice U tk te)).setCell ⟨r, 3, none⟩ (.int .i64 t.sum)) := by
  have hn := fun j (hj : j ≠ r) => puts_ne (g := r) [(0, .int .i64 t.lv), (1, .slice V tm td), (2, .slice U tk te), (3, .int .i64 t.sum)] w hj
  have hz := puts_size (g := r) [(0, .int .i64 t.lv), (1, .slice V tm td), (2, .slice U tk te), (3, .int .i64 t.sum)] w
  have hz' : w.heap.size ≤ (puts w r [(0, .int .i64 t.lv), (1, .slice V tm td), (2, .slice U tk te), (3, .int .i64 t.sum)]).heap.size := Nat.le_of_eq hz.symm
  exact ⟨⟨h.op.off hx (by decide) hn hz, h.ov.keepB hx (by decide) (fun j _ hj => hn j hj), h.os, h.od.keepB hx (by decide) (by decide) (fun j _ hj => hn j hj) hz', h.pl.keepB hx (by decide) hp (fun j _ hj => hn j hj) hz', h.aq.keepB hx (by decide) hq (fun j _ hj => hn j hj) hz', h.hp, h.hn, h.hm, h.hpl, h.haq⟩, oV.off hx (by decide) hn hz, oU.off hx (by decide) hn hz, puts_below (g := r) [(0, .int .i64 t.lv), (1, .slice V tm td), (2, .slice U tk te), (3, .int .i64 t.sum)] w hB hr⟩
theorem far4 {w : World} {b k : Nat} {o : Obj} {y0 y1 y2 y3 : Value} (h : w.heap[k]? = some o) (hk : k ≠ b) : (((((w).setCell ⟨b, 0, none⟩ (y0)).setCell ⟨b, 1, none⟩ (y1)).setCell ⟨b, 2, none⟩ (y2)).setCell ⟨b, 3, none⟩ (y3)).heap[k]? = some o := (puts_ne (g := b) [(0, y0), (1, y1), (2, y2), (3, y3)] w hk).trans h

set_option maxRecDepth 100000 in
set_option maxHeartbeats 4000000 in
theorem drawQueryCode_any (A0 : Option Addr) (n0 c0 : Nat) (w : World) (hb : Byt w A0 n0) (hn : n0 ≤ 9223372036854775807) :
    Calls Tryz.prog 84 #[.slice A0 n0 c0] w (DQc w) := by
  obtain ⟨b0, x1, x2, xc, hsz⟩ := box_three w #[.slice none 0 0, .slice none 0 0, .slice none 0 0, .slice none 0 0, .int .i64 0, .int .i64 0, .int .i64 0, .int .i64 0, .int .i64 0, .int .i64 0, .int .i64 0, .int .i64 0, .int .i64 0, .slice none 0 0] #[.int .i64 0, .slice none 0 0, .slice none 0 0, .int .i64 0] #[.slice A0 n0 c0, .int .i64 0, .int .u64 0] 44 56 115
  have S0 : w.heap.size + 1 + 1 + 1 ≤ (((w.alloc (.cells #[.slice none 0 0, .slice none 0 0, .slice none 0 0, .slice none 0 0, .int .i64 0, .int .i64 0, .int .i64 0, .int .i64 0, .int .i64 0, .int .i64 0, .int .i64 0, .int .i64 0, .int .i64 0, .slice none 0 0] 44)).alloc (.cells #[.int .i64 0, .slice none 0 0, .slice none 0 0, .int .i64 0] 56)).alloc (.cells #[.slice A0 n0 c0, .int .i64 0, .int .u64 0] 115)).heap.size := Nat.le_of_eq hsz.symm
  have hc0 : Cur _ (w.heap.size + 1 + 1) 0 := cur_new2 xc (by omega) hb (fun b hb => b0.block b hb) hn
  have hG0 : Chg (w.heap.size + 1 + 1) (w.heap.size + 1 + 1 + 1) w _ := Chg.of_below b0
  clear xc b0 hsz
  go_enter Tryz.func84, Tryz.ntmps84
  go_wp2_with fail
  generalize (((w.alloc (.cells #[.slice none 0 0, .slice none 0 0, .slice none 0 0, .slice none 0 0, .int .i64 0, .int .i64 0, .int .i64 0, .int .i64 0, .int .i64 0, .int .i64 0, .int .i64 0, .int .i64 0, .int .i64 0, .slice none 0 0] 44)).alloc (.cells #[.int .i64 0, .slice none 0 0, .slice none 0 0, .int .i64 0] 56)).alloc (.cells #[.slice A0 n0 c0, .int .i64 0, .int .u64 0] 115)) = w0 at *
  refine (server_any _ _ _ hc0 (by omega)).mono ?_
  rintro e w1 ⟨P, A, Z, pn, pc, n, c, m, cz, ps, vs, Y, p, cp, ts, Q, q, cq, us, x, y, fl, rfl, hO, hc1, hg1⟩
  have z1 := hg1.size
  have b2 := below_new w1 (.cells #[.slice P pn pc, .slice A n c, .slice Z m cz, .slice Y p cp, .int .i64 x.a, .int .i64 x.b, .int .i64 x.c, .int .i64 x.d, .int .i64 y.a, .int .i64 y.b, .int .i64 y.c, .int .i64 y.d, .int .i64 fl, .slice Q q cq] 44)
  have xb := Lib.hid (box_new w1 #[.slice P pn pc, .slice A n c, .slice Z m cz, .slice Y p cp, .int .i64 x.a, .int .i64 x.b, .int .i64 x.c, .int .i64 x.d, .int .i64 y.a, .int .i64 y.b, .int .i64 y.c, .int .i64 y.d, .int .i64 fl, .slice Q q cq] 44)
  have X1 := Lib.hid (bxb (box_chg x1 hg1 (by omega)) b2)
  have X2 := Lib.hid (bxb (box_chg x2 hg1 (by omega)) b2)
  have HO := Lib.hid (hO.below b2)
  have HG := Lib.hid ((hG0.trans hg1).then_ b2)
  have hc2 := hc1.below b2
  have z2 := b2.size
  clear hc0 hG0 hc1 hg1 hO x1 x2 b2
  go_wp2_with fail
  obtain ⟨gb, hgb⟩ : ∃ gb, Hid (w1.heap.size = gb) := ⟨_, Lib.hid rfl⟩
  rw [hgb.out] at xb ⊢
  generalize w1.alloc (.cells #[.slice P pn pc, .slice A n c, .slice Z m cz, .slice Y p cp, .int .i64 x.a, .int .i64 x.b, .int .i64 x.c, .int .i64 x.d, .int .i64 y.a, .int .i64 y.b, .int .i64 y.c, .int .i64 y.d, .int .i64 fl, .slice Q q cq] 44) = w2 at *
  have lb := lt_of_block xb.out
  have k0 := bxc xb.out 0 (.slice P pn pc) rfl
  have k1 := bxc xb.out 1 (.slice A n c) rfl
  have k2 := bxc xb.out 2 (.slice Z m cz) rfl
  have k3 := bxc xb.out 3 (.slice Y p cp) rfl
  have k4 := bxc xb.out 4 (.int .i64 x.a) rfl
  have k5 := bxc xb.out 5 (.int .i64 x.b) rfl
  have k6 := bxc xb.out 6 (.int .i64 x.c) rfl
  have k7 := bxc xb.out 7 (.int .i64 x.d) rfl
  have k8 := bxc xb.out 8 (.int .i64 y.a) rfl
  have k9 := bxc xb.out 9 (.int .i64 y.b) rfl
  have k10 := bxc xb.out 10 (.int .i64 y.c) rfl
  have k11 := bxc xb.out 11 (.int .i64 y.d) rfl
  have k12 := bxc xb.out 12 (.int .i64 fl) rfl
  have k13 := bxc xb.out 13 (.slice Q q cq) rfl
  have hcd : Cur w2.drew (w.heap.size + 1 + 1) 1000 := hc2
  have hOd : SvO w2.drew w0.heap.size P A Z pn pc n c m cz ps vs Y p cp ts Q q cq us x y fl := HO.out.below (Below.refl _ _).drew
  have hgb2 : w0.heap.size ≤ gb := by rw [← hgb.out]; exact z1
  have hpk := Lib.hid (asked_any P A Z pn pc n c m cz ps vs Y p cp ts Q q cq us x y fl (w.heap.size + 1 + 1) _ w0.heap.size _ hcd (by omega) hOd (by omega) (by show w0.heap.size ≤ w2.heap.size; omega))
  clear hcd hOd
  go_region_law ((go_simp; go_at_call 96; refine hpk.out.mono ?_; rintro e w4 ⟨V, tm, td, U, tk, te, t, rfl, oV, oU, hc4, hg4⟩; have hg4' : Chg (w.heap.size + 1 + 1) (w.heap.size + 1 + 1 + 1) w2 w4 := (Chg.of_below (Below.refl _ _).drew).trans hg4; have z4 := hg4'.size; have XB4 := Lib.hid (box_chg xb.out hg4' (by omega)); have X14 := Lib.hid (box_chg X1.out hg4' (by omega)); have X24 := Lib.hid (box_chg X2.out hg4' (by omega)); have HO4 := Lib.hid ((HO.out.chg hg4' (by omega)).mono (show w.heap.size ≤ w0.heap.size by omega)); have HB := Lib.hid ((HG.out.trans hg4').to_below (by omega)); have OV := Lib.hid (oV.fit (show w.heap.size ≤ w0.heap.size by omega)); have OU := Lib.hid (oU.fit (show w.heap.size ≤ w0.heap.size by omega)); have lb4 := lt_of_block XB4.out; have k4_0 := bxc XB4.out 0 (.slice P pn pc) rfl; have k4_1 := bxc XB4.out 1 (.slice A n c) rfl; have k4_2 := bxc XB4.out 2 (.slice Z m cz) rfl; have k4_3 := bxc XB4.out 3 (.slice Y p cp) rfl; have k4_4 := bxc XB4.out 4 (.int .i64 x.a) rfl; have k4_5 := bxc XB4.out 5 (.int .i64 x.b) rfl; have k4_6 := bxc XB4.out 6 (.int .i64 x.c) rfl; have k4_7 := bxc XB4.out 7 (.int .i64 x.d) rfl; have k4_8 := bxc XB4.out 8 (.int .i64 y.a) rfl; have k4_9 := bxc XB4.out 9 (.int .i64 y.b) rfl; have k4_10 := bxc XB4.out 10 (.int .i64 y.c) rfl; have k4_11 := bxc XB4.out 11 (.int .i64 y.d) rfl; have k4_12 := bxc XB4.out 12 (.int .i64 fl) rfl; have k4_13 := bxc XB4.out 13 (.slice Q q cq) rfl; have hneY : rowOf Y ≠ some (w.heap.size + 1) := fun h => (by have := (HO.out.pl.row_ge _ h).1; omega); have hneQ : rowOf Q ≠ some (w.heap.size + 1) := fun h => (by have := (HO.out.aq.row_ge _ h).1; omega); have x1 := X14.out; have x2 := X24.out; have hO := HO4.out; have oV := OV.out; have oU := OU.out; have hne14 := fun j (hj : j ≠ w.heap.size) => puts_ne (g := w.heap.size) [(0, .slice P pn pc), (1, .slice A n c), (2, .slice Z m cz), (3, .slice Y p cp), (4, .int .i64 x.a), (5, .int .i64 x.b), (6, .int .i64 x.c), (7, .int .i64 x.d), (8, .int .i64 y.a), (9, .int .i64 y.b), (10, .int .i64 y.c), (11, .int .i64 y.d), (12, .int .i64 fl), (13, .slice Q q cq)] w4 hj; have hsz14 := puts_size (g := w.heap.size) [(0, .slice P pn pc), (1, .slice A n c), (2, .slice Z m cz), (3, .slice Y p cp), (4, .int .i64 x.a), (5, .int .i64 x.b), (6, .int .i64 x.c), (7, .int .i64 x.d), (8, .int .i64 y.a), (9, .int .i64 y.b), (10, .int .i64 y.c), (11, .int .i64 y.d), (12, .int .i64 fl), (13, .slice Q q cq)] w4; rw [puts14] at hsz14; simp only [puts14] at hne14; have lr1 := lt_of_block x1; have lr2 := lt_of_block x2; have ap0 := bxc x1 0 _ rfl; have ag0 := bxf x1 0; have ap1 := bxc x1 1 _ rfl; have ag1 := bxf x1 1; have ap2 := bxc x1 2 _ rfl; have ag2 := bxf x1 2; have ap3 := bxc x1 3 _ rfl; have ag3 := bxf x1 3; have ap4 := bxc x1 4 _ rfl; have ag4 := bxf x1 4; have ap5 := bxc x1 5 _ rfl; have ag5 := bxf x1 5; have ap6 := bxc x1 6 _ rfl; have ag6 := bxf x1 6; have ap7 := bxc x1 7 _ rfl; have ag7 := bxf x1 7; have ap8 := bxc x1 8 _ rfl; have ag8 := bxf x1 8; have ap9 := bxc x1 9 _ rfl; have ag9 := bxf x1 9; have ap10 := bxc x1 10 _ rfl; have ag10 := bxf x1 10; have ap11 := bxc x1 11 _ rfl; have ag11 := bxf x1 11; have ap12 := bxc x1 12 _ rfl; have ag12 := bxf x1 12; have ap13 := bxc x1 13 _ rfl; have ag13 := bxf x1 13; have y2 : (((((((((((((((w4).setCell ⟨w.heap.size, 0, none⟩ (.slice P pn pc)).setCell ⟨w.heap.size, 1, none⟩ (.slice A n c)).setCell ⟨w.heap.size, 2, none⟩ (.slice Z m cz)).setCell ⟨w.heap.size, 3, none⟩ (.slice Y p cp)).setCell ⟨w.heap.size, 4, none⟩ (.int .i64 x.a)).setCell ⟨w.heap.size, 5, none⟩ (.int .i64 x.b)).setCell ⟨w.heap.size, 6, none⟩ (.int .i64 x.c)).setCell ⟨w.heap.size, 7, none⟩ (.int .i64 x.d)).setCell ⟨w.heap.size, 8, none⟩ (.int .i64 y.a)).setCell ⟨w.heap.size, 9, none⟩ (.int .i64 y.b)).setCell ⟨w.heap.size, 10, none⟩ (.int .i64 y.c)).setCell ⟨w.heap.size, 11, none⟩ (.int .i64 y.d)).setCell ⟨w.heap.size, 12, none⟩ (.int .i64 fl)).setCell ⟨w.heap.size, 13, none⟩ (.slice Q q cq)).heap[w.heap.size + 1]? = _ := far14 x2 (by omega); have bp0 := bxc y2 0 _ rfl; have bg0 := bxf y2 0; have bp1 := bxc y2 1 _ rfl; have bg1 := bxf y2 1; have bp2 := bxc y2 2 _ rfl; have bg2 := bxf y2 2; have bp3 := bxc y2 3 _ rfl; have bg3 := bxf y2 3; have ly2 := lt_of_block y2; have RX := Lib.hid (fill14n (y0 := .slice P pn pc) (y1 := .slice A n c) (y2 := .slice Z m cz) (y3 := .slice Y p cp) (y4 := .int .i64 x.a) (y5 := .int .i64 x.b) (y6 := .int .i64 x.c) (y7 := .int .i64 x.d) (y8 := .int .i64 y.a) (y9 := .int .i64 y.b) (y10 := .int .i64 y.c) (y11 := .int .i64 y.d) (y12 := .int .i64 fl) (y13 := .slice Q q cq) x1); have RY : (((((((((((((((((((w4).setCell ⟨w.heap.size, 0, none⟩ (.slice P pn pc)).setCell ⟨w.heap.size, 1, none⟩ (.slice A n c)).setCell ⟨w.heap.size, 2, none⟩ (.slice Z m cz)).setCell ⟨w.heap.size, 3, none⟩ (.slice Y p cp)).setCell ⟨w.heap.size, 4, none⟩ (.int .i64 x.a)).setCell ⟨w.heap.size, 5, none⟩ (.int .i64 x.b)).setCell ⟨w.heap.size, 6, none⟩ (.int .i64 x.c)).setCell ⟨w.heap.size, 7, none⟩ (.int .i64 x.d)).setCell ⟨w.heap.size, 8, none⟩ (.int .i64 y.a)).setCell ⟨w.heap.size, 9, none⟩ (.int .i64 y.b)).setCell ⟨w.heap.size, 10, none⟩ (.int .i64 y.c)).setCell ⟨w.heap.size, 11, none⟩ (.int .i64 y.d)).setCell ⟨w.heap.size, 12, none⟩ (.int .i64 fl)).setCell ⟨w.heap.size, 13, none⟩ (.slice Q q cq)).setCell ⟨w.heap.size + 1, 0, none⟩ (.int .i64 t.lv)).setCell ⟨w.heap.size + 1, 1, none⟩ (.slice V tm td)).setCell ⟨w.heap.size + 1, 2, none⟩ (.slice U tk te)).setCell ⟨w.heap.size + 1, 3, none⟩ (.int .i64 t.sum)).heap[w.heap.size]? = _ := far4 RX.out (by omega); have RZ : (((((((((((((((((((w4).setCell ⟨w.heap.size, 0, none⟩ (.slice P pn pc)).setCell ⟨w.heap.size, 1, none⟩ (.slice A n c)).setCell ⟨w.heap.size, 2, none⟩ (.slice Z m cz)).setCell ⟨w.heap.size, 3, none⟩ (.slice Y p cp)).setCell ⟨w.heap.size, 4, none⟩ (.int .i64 x.a)).setCell ⟨w.heap.size, 5, none⟩ (.int .i64 x.b)).setCell ⟨w.heap.size, 6, none⟩ (.int .i64 x.c)).setCell ⟨w.heap.size, 7, none⟩ (.int .i64 x.d)).setCell ⟨w.heap.size, 8, none⟩ (.int .i64 y.a)).setCell ⟨w.heap.size, 9, none⟩ (.int .i64 y.b)).setCell ⟨w.heap.size, 10, none⟩ (.int .i64 y.c)).setCell ⟨w.heap.size, 11, none⟩ (.int .i64 y.d)).setCell ⟨w.heap.size, 12, none⟩ (.int .i64 fl)).setCell ⟨w.heap.size, 13, none⟩ (.slice Q q cq)).setCell ⟨w.heap.size + 1, 0, none⟩ (.int .i64 t.lv)).setCell ⟨w.heap.size + 1, 1, none⟩ (.slice V tm td)).setCell ⟨w.heap.size + 1, 2, none⟩ (.slice U tk te)).setCell ⟨w.heap.size + 1, 3, none⟩ (.int .i64 t.sum)).heap[w.heap.size + 1]? = some (.cells #[.int .i64 t.lv, .slice V tm td, .slice U tk te, .int .i64 t.sum] 56 (0, 0)) := box_set (box_set (box_set (box_set y2 0 _) 1 _) 2 _) 3 _; have r0 := bxc RY 0 (.slice P pn pc) rfl; have r1 := bxc RY 1 (.slice A n c) rfl; have r2 := bxc RY 2 (.slice Z m cz) rfl; have r3 := bxc RY 3 (.slice Y p cp) rfl; have r4 := bxc RY 4 (.int .i64 x.a) rfl; have r5 := bxc RY 5 (.int .i64 x.b) rfl; have r6 := bxc RY 6 (.int .i64 x.c) rfl; have r7 := bxc RY 7 (.int .i64 x.d) rfl; have r8 := bxc RY 8 (.int .i64 y.a) rfl; have r9 := bxc RY 9 (.int .i64 y.b) rfl; have r10 := bxc RY 10 (.int .i64 y.c) rfl; have r11 := bxc RY 11 (.int .i64 y.d) rfl; have r12 := bxc RY 12 (.int .i64 fl) rfl; have r13 := bxc RY 13 (.slice Q q cq) rfl; have q0 := bxc RZ 0 (.int .i64 t.lv) rfl; have q1 := bxc RZ 1 (.slice V tm td) rfl; have q2 := bxc RZ 2 (.slice U tk te) rfl; have q3 := bxc RZ 3 (.int .i64 t.sum) rfl; have F1 := hO.fill x1 HB.out (Nat.le_refl _); have F2 := F1.1.fill4 (V := V) (tm := tm) (td := td) (U := U) (tk := tk) (te := te) (t := t) y2 hneY hneQ ((oV.off x1 (by decide) (fun j hj => hne14 j hj) hsz14)) ((oU.off x1 (by decide) (fun j hj => hne14 j hj) hsz14)) F1.2 (Nat.le_succ _); have FIN := Lib.hid F2; clear F1 F2 x1 x2 RX hO oV oU RY RZ y2; dsimp only))
  all_goals (clear hpk xb lb XB4 X1 X2 X14 X24 HO HO4 HG OV OU hc2 hc4 hg4 hg4')
  all_goals go_wp2
  all_goals exact bodyPost_ret (v := .tuple #[.agg #[.slice P pn pc, .slice A n c, .slice Z m cz, .slice Y p cp, .int .i64 x.a, .int .i64 x.b, .int .i64 x.c, .int .i64 x.d, .int .i64 y.a, .int .i64 y.b, .int .i64 y.c, .int .i64 y.d, .int .i64 fl, .slice Q q cq], .agg #[.int .i64 t.lv, .slice V tm td, .slice U tk te, .int .i64 t.sum]]) (by simp [results, Tryz.results84, go_sem, r0, r1, r2, r3, r4, r5, r6, r7, r8, r9, r10, r11, r12, r13, q0, q1, q2, q3]) rfl ⟨P, A, Z, pn, pc, n, c, m, cz, ps, vs, Y, p, cp, ts, Q, q, cq, us, x, y, fl, V, tm, td, U, tk, te, t, rfl, FIN.out⟩

set_option maxRecDepth 100000 in
set_option maxHeartbeats 4000000 in
theorem drawAskTable_any (A0 : Option Addr) (n0 c0 : Nat) (w : World) (hb : Byt w A0 n0) (hn : n0 ≤ 9223372036854775807) :
    Calls Tryz.prog 38 #[.slice A0 n0 c0] w (DQc w) := by
  obtain ⟨b0, x1, x2⟩ := box_two w #[.slice none 0 0, .slice none 0 0, .slice none 0 0, .slice none 0 0, .int .i64 0, .int .i64 0, .int .i64 0, .int .i64 0, .int .i64 0, .int .i64 0, .int .i64 0, .int .i64 0, .int .i64 0, .slice none 0 0] #[.int .i64 0, .slice none 0 0, .slice none 0 0, .int .i64 0] 44 56
  have S0 : w.heap.size + 1 + 1 ≤ ((w.alloc (.cells #[.slice none 0 0, .slice none 0 0, .slice none 0 0, .slice none 0 0, .int .i64 0, .int .i64 0, .int .i64 0, .int .i64 0, .int .i64 0, .int .i64 0, .int .i64 0, .int .i64 0, .int .i64 0, .slice none 0 0] 44)).alloc (.cells #[.int .i64 0, .slice none 0 0, .slice none 0 0, .int .i64 0] 56)).heap.size := by simp
  have hb1 := hb.below b0
  go_enter Tryz.func38, Tryz.ntmps38
  go_wp2_with fail
  generalize ((w.alloc (.cells #[.slice none 0 0, .slice none 0 0, .slice none 0 0, .slice none 0 0, .int .i64 0, .int .i64 0, .int .i64 0, .int .i64 0, .int .i64 0, .int .i64 0, .int .i64 0, .int .i64 0, .int .i64 0, .slice none 0 0] 44)).alloc (.cells #[.int .i64 0, .slice none 0 0, .slice none 0 0, .int .i64 0] 56)) = w0 at *
  refine (drawQueryCode_any _ _ _ _ hb1 hn).mono ?_
  rintro e w1 ⟨P, A, Z, pn, pc, n, c, m, cz, ps, vs, Y, p, cp, ts, Q, q, cq, us, x, y, fl, V, tm, td, U, tk, te, t, rfl, hO, oV, oU, b1⟩
  replace x1 := bxb x1 b1
  replace x2 := bxb x2 b1
  have hneY : rowOf Y ≠ some (w.heap.size + 1) := fun h => by have := (hO.pl.row_ge _ h).1; omega
  have hneQ : rowOf Q ≠ some (w.heap.size + 1) := fun h => by have := (hO.aq.row_ge _ h).1; omega
  replace hO := hO.mono (show w.heap.size ≤ w0.heap.size by omega)
  replace oV := oV.fit (show w.heap.size ≤ w0.heap.size by omega)
  replace oU := oU.fit (show w.heap.size ≤ w0.heap.size by omega)
  have HB := Lib.hid (b0.trans (b1.mono b0.size))
  clear b0 b1 hb1 hb
  have hne14 := fun j (hj : j ≠ w.heap.size) => puts_ne (g := w.heap.size) [(0, .slice P pn pc), (1, .slice A n c), (2, .slice Z m cz), (3, .slice Y p cp), (4, .int .i64 x.a), (5, .int .i64 x.b), (6, .int .i64 x.c), (7, .int .i64 x.d), (8, .int .i64 y.a), (9, .int .i64 y.b), (10, .int .i64 y.c), (11, .int .i64 y.d), (12, .int .i64 fl), (13, .slice Q q cq)] w1 hj
  have hsz14 := puts_size (g := w.heap.size) [(0, .slice P pn pc), (1, .slice A n c), (2, .slice Z m cz), (3, .slice Y p cp), (4, .int .i64 x.a), (5, .int .i64 x.b), (6, .int .i64 x.c), (7, .int .i64 x.d), (8, .int .i64 y.a), (9, .int .i64 y.b), (10, .int .i64 y.c), (11, .int .i64 y.d), (12, .int .i64 fl), (13, .slice Q q cq)] w1
  rw [puts14] at hsz14
  simp only [puts14] at hne14
  have lr1 := lt_of_block x1; have lr2 := lt_of_block x2
  have ap0 := bxc x1 0 _ rfl; have ag0 := bxf x1 0; have ap1 := bxc x1 1 _ rfl; have ag1 := bxf x1 1; have ap2 := bxc x1 2 _ rfl; have ag2 := bxf x1 2; have ap3 := bxc x1 3 _ rfl; have ag3 := bxf x1 3; have ap4 := bxc x1 4 _ rfl; have ag4 := bxf x1 4; have ap5 := bxc x1 5 _ rfl; have ag5 := bxf x1 5; have ap6 := bxc x1 6 _ rfl; have ag6 := bxf x1 6; have ap7 := bxc x1 7 _ rfl; have ag7 := bxf x1 7; have ap8 := bxc x1 8 _ rfl; have ag8 := bxf x1 8; have ap9 := bxc x1 9 _ rfl; have ag9 := bxf x1 9; have ap10 := bxc x1 10 _ rfl; have ag10 := bxf x1 10; have ap11 := bxc x1 11 _ rfl; have ag11 := bxf x1 11; have ap12 := bxc x1 12 _ rfl; have ag12 := bxf x1 12; have ap13 := bxc x1 13 _ rfl; have ag13 := bxf x1 13
  have y2 : (((((((((((((((w1).setCell ⟨w.heap.size, 0, none⟩ (.slice P pn pc)).setCell ⟨w.heap.size, 1, none⟩ (.slice A n c)).setCell ⟨w.heap.size, 2, none⟩ (.slice Z m cz)).setCell ⟨w.heap.size, 3, none⟩ (.slice Y p cp)).setCell ⟨w.heap.size, 4, none⟩ (.int .i64 x.a)).setCell ⟨w.heap.size, 5, none⟩ (.int .i64 x.b)).setCell ⟨w.heap.size, 6, none⟩ (.int .i64 x.c)).setCell ⟨w.heap.size, 7, none⟩ (.int .i64 x.d)).setCell ⟨w.heap.size, 8, none⟩ (.int .i64 y.a)).setCell ⟨w.heap.size, 9, none⟩ (.int .i64 y.b)).setCell ⟨w.heap.size, 10, none⟩ (.int .i64 y.c)).setCell ⟨w.heap.size, 11, none⟩ (.int .i64 y.d)).setCell ⟨w.heap.size, 12, none⟩ (.int .i64 fl)).setCell ⟨w.heap.size, 13, none⟩ (.slice Q q cq)).heap[w.heap.size + 1]? = _ := far14 x2 (by omega)
  have bp0 := bxc y2 0 _ rfl; have bg0 := bxf y2 0; have bp1 := bxc y2 1 _ rfl; have bg1 := bxf y2 1; have bp2 := bxc y2 2 _ rfl; have bg2 := bxf y2 2; have bp3 := bxc y2 3 _ rfl; have bg3 := bxf y2 3
  have ly2 := lt_of_block y2
  have RX := Lib.hid (fill14n (y0 := .slice P pn pc) (y1 := .slice A n c) (y2 := .slice Z m cz) (y3 := .slice Y p cp) (y4 := .int .i64 x.a) (y5 := .int .i64 x.b) (y6 := .int .i64 x.c) (y7 := .int .i64 x.d) (y8 := .int .i64 y.a) (y9 := .int .i64 y.b) (y10 := .int .i64 y.c) (y11 := .int .i64 y.d) (y12 := .int .i64 fl) (y13 := .slice Q q cq) x1)
  have RY : (((((((((((((((((((w1).setCell ⟨w.heap.size, 0, none⟩ (.slice P pn pc)).setCell ⟨w.heap.size, 1, none⟩ (.slice A n c)).setCell ⟨w.heap.size, 2, none⟩ (.slice Z m cz)).setCell ⟨w.heap.size, 3, none⟩ (.slice Y p cp)).setCell ⟨w.heap.size, 4, none⟩ (.int .i64 x.a)).setCell ⟨w.heap.size, 5, none⟩ (.int .i64 x.b)).setCell ⟨w.heap.size, 6, none⟩ (.int .i64 x.c)).setCell ⟨w.heap.size, 7, none⟩ (.int .i64 x.d)).setCell ⟨w.heap.size, 8, none⟩ (.int .i64 y.a)).setCell ⟨w.heap.size, 9, none⟩ (.int .i64 y.b)).setCell ⟨w.heap.size, 10, none⟩ (.int .i64 y.c)).setCell ⟨w.heap.size, 11, none⟩ (.int .i64 y.d)).setCell ⟨w.heap.size, 12, none⟩ (.int .i64 fl)).setCell ⟨w.heap.size, 13, none⟩ (.slice Q q cq)).setCell ⟨w.heap.size + 1, 0, none⟩ (.int .i64 t.lv)).setCell ⟨w.heap.size + 1, 1, none⟩ (.slice V tm td)).setCell ⟨w.heap.size + 1, 2, none⟩ (.slice U tk te)).setCell ⟨w.heap.size + 1, 3, none⟩ (.int .i64 t.sum)).heap[w.heap.size]? = _ := far4 RX.out (by omega)
  have RZ : (((((((((((((((((((w1).setCell ⟨w.heap.size, 0, none⟩ (.slice P pn pc)).setCell ⟨w.heap.size, 1, none⟩ (.slice A n c)).setCell ⟨w.heap.size, 2, none⟩ (.slice Z m cz)).setCell ⟨w.heap.size, 3, none⟩ (.slice Y p cp)).setCell ⟨w.heap.size, 4, none⟩ (.int .i64 x.a)).setCell ⟨w.heap.size, 5, none⟩ (.int .i64 x.b)).setCell ⟨w.heap.size, 6, none⟩ (.int .i64 x.c)).setCell ⟨w.heap.size, 7, none⟩ (.int .i64 x.d)).setCell ⟨w.heap.size, 8, none⟩ (.int .i64 y.a)).setCell ⟨w.heap.size, 9, none⟩ (.int .i64 y.b)).setCell ⟨w.heap.size, 10, none⟩ (.int .i64 y.c)).setCell ⟨w.heap.size, 11, none⟩ (.int .i64 y.d)).setCell ⟨w.heap.size, 12, none⟩ (.int .i64 fl)).setCell ⟨w.heap.size, 13, none⟩ (.slice Q q cq)).setCell ⟨w.heap.size + 1, 0, none⟩ (.int .i64 t.lv)).setCell ⟨w.heap.size + 1, 1, none⟩ (.slice V tm td)).setCell ⟨w.heap.size + 1, 2, none⟩ (.slice U tk te)).setCell ⟨w.heap.size + 1, 3, none⟩ (.int .i64 t.sum)).heap[w.heap.size + 1]? = some (.cells #[.int .i64 t.lv, .slice V tm td, .slice U tk te, .int .i64 t.sum] 56 (0, 0)) := box_set (box_set (box_set (box_set y2 0 _) 1 _) 2 _) 3 _
  have r0 := bxc RY 0 (.slice P pn pc) rfl; have r1 := bxc RY 1 (.slice A n c) rfl; have r2 := bxc RY 2 (.slice Z m cz) rfl; have r3 := bxc RY 3 (.slice Y p cp) rfl; have r4 := bxc RY 4 (.int .i64 x.a) rfl; have r5 := bxc RY 5 (.int .i64 x.b) rfl; have r6 := bxc RY 6 (.int .i64 x.c) rfl; have r7 := bxc RY 7 (.int .i64 x.d) rfl; have r8 := bxc RY 8 (.int .i64 y.a) rfl; have r9 := bxc RY 9 (.int .i64 y.b) rfl; have r10 := bxc RY 10 (.int .i64 y.c) rfl; have r11 := bxc RY 11 (.int .i64 y.d) rfl; have r12 := bxc RY 12 (.int .i64 fl) rfl; have r13 := bxc RY 13 (.slice Q q cq) rfl
  have q0 := bxc RZ 0 (.int .i64 t.lv) rfl; have q1 := bxc RZ 1 (.slice V tm td) rfl; have q2 := bxc RZ 2 (.slice U tk te) rfl; have q3 := bxc RZ 3 (.int .i64 t.sum) rfl
  have F1 := hO.fill x1 HB.out (Nat.le_refl _)
  have F2 := F1.1.fill4 (V := V) (tm := tm) (td := td) (U := U) (tk := tk) (te := te) (t := t) y2 hneY hneQ ((oV.off x1 (by decide) (fun j hj => hne14 j hj) hsz14)) ((oU.off x1 (by decide) (fun j hj => hne14 j hj) hsz14)) F1.2 (Nat.le_succ _)
  have FIN := Lib.hid F2
  clear F1 F2 x1 x2 RX hO oV oU RY RZ y2
  go_wp2
  exact bodyPost_ret (v := .tuple #[.agg #[.slice P pn pc, .slice A n c, .slice Z m cz, .slice Y p cp, .int .i64 x.a, .int .i64 x.b, .int .i64 x.c, .int .i64 x.d, .int .i64 y.a, .int .i64 y.b, .int .i64 y.c, .int .i64 y.d, .int .i64 fl, .slice Q q cq], .agg #[.int .i64 t.lv, .slice V tm td, .slice U tk te, .int .i64 t.sum]]) (by simp [results, Tryz.results38, go_sem, r0, r1, r2, r3, r4, r5, r6, r7, r8, r9, r10, r11, r12, r13, q0, q1, q2, q3]) rfl ⟨P, A, Z, pn, pc, n, c, m, cz, ps, vs, Y, p, cp, ts, Q, q, cq, us, x, y, fl, V, tm, td, U, tk, te, t, rfl, FIN.out⟩

/-- What laws want of a drawn server. -/
def DSr (w : World) (e : Ending) (w' : World) : Prop := ∃ (P A Z Y Q : Option Addr) (g cg n c m cm p cp q cq : Nat) (D : SvD), e = .returned (.agg #[.slice P g cg, .slice A n c, .slice Z m cm, .slice Y p cp, .int .i64 D.cost.a, .int .i64 D.cost.b, .int .i64 D.cost.c, .int .i64 D.cost.d, .int .i64 D.bud.a, .int .i64 D.bud.b, .int .i64 D.bud.c, .int .i64 D.bud.d, .int .i64 D.floor, .slice Q q cq]) ∧ SvR w' P A Z Y Q g n c m p cp q cq D ∧ p ≤ 100 ∧ q ≤ 100 ∧ Below w.heap.size w w'
def DQr (w : World) (e : Ending) (w' : World) : Prop := ∃ (P A Z Y Q : Option Addr) (g cg n c m cm p cp q cq : Nat) (D : SvD) (V : Option Addr) (tm td : Nat) (U : Option Addr) (tk te : Nat) (t : TabD), e = .returned (.tuple #[.agg #[.slice P g cg, .slice A n c, .slice Z m cm, .slice Y p cp, .int .i64 D.cost.a, .int .i64 D.cost.b, .int .i64 D.cost.c, .int .i64 D.cost.d, .int .i64 D.bud.a, .int .i64 D.bud.b, .int .i64 D.bud.c, .int .i64 D.bud.d, .int .i64 D.floor, .slice Q q cq], .agg #[.int .i64 t.lv, .slice V tm td, .slice U tk te, .int .i64 t.sum]]) ∧ SvR w' P A Z Y Q g n c m p cp q cq D ∧ TabR w' V tm U tk t ∧ p ≤ 100 ∧ q ≤ 100 ∧ Below w.heap.size w w'
theorem DIs.law {w w' : World} {e : Ending} (h : DIs w e w') : DSr w e w' := by
  obtain ⟨P, A, Z, pn, pc, n, c, m, cz, ps, vs, Y, p, cp, ts, Q, q, cq, us, x, y, fl, rfl, hO, hb⟩ := h
  obtain ⟨rs, hV⟩ := hO.svR
  exact ⟨P, A, Z, Y, Q, pn, pc, n, c, m, cz, p, cp, q, cq, ⟨ps, vs, rs, ts, x, y, fl, us⟩, rfl, hV, hO.hpl, hO.haq, hb⟩
theorem DQc.law {w w' : World} {e : Ending} (h : DQc w e w') : DQr w e w' := by
  obtain ⟨P, A, Z, pn, pc, n, c, m, cz, ps, vs, Y, p, cp, ts, Q, q, cq, us, x, y, fl, V, tm, td, U, tk, te, t, rfl, hO, oV, oU, hb⟩ := h
  obtain ⟨rs, hV⟩ := hO.svR
  exact ⟨P, A, Z, Y, Q, pn, pc, n, c, m, cz, p, cp, q, cq, ⟨ps, vs, rs, ts, x, y, fl, us⟩, V, tm, td, U, tk, te, t, rfl, hV, ⟨oV.intR, oU.intR⟩, hO.hpl, hO.haq, hb⟩
end
end Go.Proofs.YtfanpbfmnckmnaaGreat
