/- Several small texts in one: DrW, DrX. -/
import Derived.Test.YtahbcnclhohnaaaGreatZj
import Derived.Test.YtahbcnclhohnaaaGreatYa
namespace Go.Proofs.YtahbcnclhohnaaaGreat

section
open Go.RowKit

set_option maxRecDepth 100000 in
set_option maxHeartbeats 4000000 in
theorem l1Own_any (A : Option Addr) (n c : Nat) (xs : List Int) (w : World) (hx : Ints w A n xs) (hn : n ≤ 1000000) :
    Calls Tryz.prog 127 #[.slice A n c] w fun e w' => ∃ A' c', e = .returned (.slice A' n c') ∧ OwnI w' w.heap.size w'.heap.size A' n c' xs ∧ Below w.heap.size w w' := by
  have b0 := below_new w (.cells #[] 3)
  have o0 := own_new w [] 0 rfl (by omega)
  have hx0 := hx.below b0
  have z0 := b0.size
  clear hx
  go_enter Tryz.func127, Tryz.ntmps127
  go_wp2_with (at_builtin; refine wp_app rfl _ _ rfl w.heap.size (some ⟨w.heap.size, 0, none⟩) 0 0 [] rfl o0 A n c xs rfl hx0 (by omega) z0 ?_; intro A2 c2 w2 hown hg _)
  simp only [Nat.zero_add, List.nil_append] at hown ⊢
  have B2 := Lib.hid (below_write b0 hg z0 (fun k hk => by simp [rowOf] at hk; omega))
  have O2 := Lib.hid (OwnI.of_own hown (by omega))
  clear b0 o0 hx0 hown hg
  go_wp2
  go_ret
  exact ⟨A2, c2, rfl, O2.out, B2.out⟩

set_option maxRecDepth 100000 in
set_option maxHeartbeats 4000000 in
theorem rOwn_any (x y : Int) (V : Option Addr) (m cv : Nat) (xs : List Int) (w : World) (hx : Ints w V m xs) (hm : m ≤ 1000000) :
    Calls Tryz.prog 108 #[.agg #[.int .i64 x, .int .i64 y, .slice V m cv]] w fun e w' => ∃ V' c', e = .returned (.agg #[.int .i64 x, .int .i64 y, .slice V' m c']) ∧ OwnI w' w.heap.size w'.heap.size V' m c' xs ∧ Below w.heap.size w w' := by
  obtain ⟨b0, x1, x2⟩ := box_two w #[.int .i64 x, .int .i64 y, .slice V m cv] #[.int .i64 0, .int .i64 0, .slice none 0 0] 79 79
  have S := Lib.hid (show ((w.alloc (.cells #[.int .i64 x, .int .i64 y, .slice V m cv] 79)).alloc (.cells #[.int .i64 0, .int .i64 0, .slice none 0 0] 79)).heap.size = w.heap.size + 1 + 1 by simp)
  have HX := Lib.hid (hx.below b0)
  clear hx
  go_enter Tryz.func108, Tryz.ntmps108
  go_wp2_with fail
  generalize (w.alloc (.cells #[.int .i64 x, .int .i64 y, .slice V m cv] 79)).alloc (.cells #[.int .i64 0, .int .i64 0, .slice none 0 0] 79) = w1 at *
  have i0 := box_cell x1 0 _ rfl
  have i1 := box_cell x1 1 _ rfl
  have i2 := box_cell x1 2 _ rfl
  go_region_held3 (fun w' => w'.cell? ⟨w.heap.size, 0, none⟩ = some (.int .i64 x) ∧ w'.cell? ⟨w.heap.size, 1, none⟩ = some (.int .i64 y) ∧ w'.cell? ⟨w.heap.size, 2, none⟩ = some (.slice V m cv)) (first | exact ⟨i0, i1, i2⟩ | exact ⟨q0, q1, q2⟩ | go_keep) ((first | (go_at_call 127; refine (l1Own_any V m cv xs _ (by exact HX.out) hm).mono ?_; rintro e w2 ⟨V2, c2, rfl, o2, b2⟩; have b2' : Below w1.heap.size w1 w2 := (by first | exact b2 | exact (Below.refl _ _).drew.trans b2); have y1 := box_below x1 b2'; have y2 := box_below x2 b2'; have q0 := box_cell y1 0 _ rfl; have q1 := box_cell y1 1 _ rfl; have q2 := box_cell y1 2 _ rfl; have p0 := box_cell y2 0 _ rfl; have p1 := box_cell y2 1 _ rfl; have p2 := box_cell y2 2 _ rfl; have f0 := box_free y2 0; have f1 := box_free y2 1; have f2 := box_free y2 2; have hz2 := b2'.size) | fail))
  have g32 : w.heap.size + 1 < w2.heap.size := by have := S.out; omega
  have HO : Hid (OwnI w2 w1.heap.size w2.heap.size V2 m c2 xs) := Lib.hid (by exact o2)
  have HB := Lib.hid (b0.trans (b2'.mono b0.size))
  clear o2 b2 b2' b0 x1 x2 y1 i0 i1 i2 q0 q1 q2 HX
  have y3 := box_set (box_set (box_set y2 0 (.int .i64 x)) 1 (.int .i64 y)) 2 (.slice V2 m c2)
  have r0 := box_cell y3 0 (.int .i64 x) rfl
  have r1 := box_cell y3 1 (.int .i64 y) rfl
  have r2 := box_cell y3 2 (.slice V2 m c2) rfl
  go_wp2
  refine bodyPost_ret (v := .agg #[.int .i64 x, .int .i64 y, .slice V2 m c2]) (by simp [results, Tryz.results108, go_sem, r0, r1, r2]) rfl ⟨V2, c2, rfl, ?_, (((HB.out.setCell (by simp) _).setCell (by simp) _).setCell (by simp) _)⟩
  have hk := (((Chg.refl (w.heap.size + 1) (w.heap.size + 1 + 1) w2).set (g := w.heap.size + 1) (i := 0) (v := .int .i64 x) (by omega) (by omega)).set (g := w.heap.size + 1) (i := 1) (v := .int .i64 y) (by omega) (by omega)).set (g := w.heap.size + 1) (i := 2) (v := .slice V2 m c2) (by omega) (by omega)
  exact (HO.out.chg hk (.inr (by have := S.out; omega))).fit (by have := S.out; omega)
end

section
open Go.RowKit

/-- A drawn record. -/
def DRec (g L : Nat) (w : World) (e : Ending) (w' : World) : Prop := ∃ (x y : Int) (V : Option Addr) (m cv : Nat) (xs : List Int), e = .returned (.agg #[.int .i64 x, .int .i64 y, .slice V m cv]) ∧ m ≤ 9 ∧ OwnI w' w.heap.size w'.heap.size V m cv xs ∧ Cur w' g L ∧ Chg g (g + 1) w w'

set_option maxRecDepth 100000 in
set_option maxHeartbeats 4000000 in
theorem record_any (g L lo n c la ha nb cb : Nat) (A B : Option Addr) (vs : List (ByteArray × Int)) (bs : List Int) (w : World) (h : Cur w g L) (hL : L ≤ 700000) (os : DVr w lo A n c vs) (hlo : g < lo) (hn : n ≤ 8) (ob : OwnI w la ha B nb cb bs) (hla : g < la) (hnb : 1 ≤ nb) (hnb2 : nb ≤ 1000) (hbd : ∀ j, j < nb → -1 ≤ bs[j]?.getD 0 ∧ bs[j]?.getD 0 ≤ 1000) :
    Calls Tryz.prog 107 #[.pointer (some ⟨g, 0, none⟩), .slice A n c, .slice B nb cb] w (DRec g (L + 20) w) := by
  have hlt := h.lt
  have b0 := below_new w (.cells #[.int .i64 0, .int .i64 0, .slice none 0 0] 79)
  have xr := box_new w #[.int .i64 0, .int .i64 0, .slice none 0 0] 79
  have hc0 := h.below b0
  have hG0 : Chg g (g + 1) w (w.alloc (.cells #[.int .i64 0, .int .i64 0, .slice none 0 0] 79)) := Chg.of_below b0
  have HS := Lib.hid (show (w.alloc (.cells #[.int .i64 0, .int .i64 0, .slice none 0 0] 79)).heap.size = w.heap.size + 1 by simp)
  have HBD := Lib.hid hbd
  replace os := os.below b0
  replace ob := ob.below b0
  clear h b0 hbd
  go_enter Tryz.func107, Tryz.ntmps107
  go_wp2_with fail
  generalize w.alloc (.cells #[.int .i64 0, .int .i64 0, .slice none 0 0] 79) = w1 at *
  refine (among_any g _ _ _ _ _ _ (-1) 1000 bs _ hc0 (by omega) ob (by omega) hnb HBD.out (by omega)).mono ?_
  rintro e w2 ⟨x, rfl, _, _, hc2, hg2⟩
  replace os := os.chg hg2 hlo
  replace xr := box_chg xr hg2 (by omega)
  have hG2 := hG0.trans hg2
  have z2 := hg2.size
  clear hc0 hG0 hg2 ob
  go_wp2_with fail
  refine (pick_any g _ _ _ hc2 (by omega) (by omega)).mono ?_
  rintro e w3 ⟨y, rfl, _, _, hc3, hg3⟩
  replace os := os.chg hg3 hlo
  replace xr := box_chg xr hg3 (by omega)
  have hG3 := hG2.trans hg3
  have z3 := hg3.size
  clear hc2 hG2 hg3
  go_wp2_with fail
  refine (values_any g _ lo n c A vs _ hc3 (by omega) os hlo hn).mono ?_
  rintro e w4 ⟨V, m, cv, xs, rfl, hm, ov, hc4, hg4⟩
  replace xr := box_chg xr hg4 (by omega)
  have hG4 := hG3.trans hg4
  have z4 := hg4.size
  have hs1 : w.heap.size + 1 ≤ w1.heap.size := by have := HS.out; omega
  clear hc3 hG3 hg4 os
  have p0 := box_cell xr 0 _ rfl
  have p1 := box_cell xr 1 _ rfl
  have p2 := box_cell xr 2 _ rfl
  have f0 := box_free xr 0
  have f1 := box_free xr 1
  have f2 := box_free xr 2
  have y3 := box_set (box_set (box_set xr 0 (.int .i64 x)) 1 (.int .i64 y)) 2 (.slice V m cv)
  have r0 := box_cell y3 0 (.int .i64 x) rfl
  have r1 := box_cell y3 1 (.int .i64 y) rfl
  have r2 := box_cell y3 2 (.slice V m cv) rfl
  have l0 := lt_of_block xr
  go_wp2
  refine bodyPost_ret (v := .agg #[.int .i64 x, .int .i64 y, .slice V m cv]) (by simp [results, Tryz.results107, go_sem, r0, r1, r2]) rfl ⟨x, y, V, m, cv, xs, rfl, by omega, ?_, ?_, ((hG4.setNewD (by simp) _).setNewD (by simp) _).setNewD (by simp) _⟩
  · have hk := (((Chg.refl w.heap.size (w.heap.size + 1) w4).set (g := w.heap.size) (i := 0) (v := .int .i64 x) (by omega) (by omega)).set (g := w.heap.size) (i := 1) (v := .int .i64 y) (by omega) (by omega)).set (g := w.heap.size) (i := 2) (v := .slice V m cv) (by omega) (by omega)
    exact (ov.chg hk (.inr (by omega))).fit (by omega)
  · exact (((hc4.far (p := ⟨w.heap.size, 0, none⟩) hlt _).far (p := ⟨w.heap.size, 1, none⟩) hlt _).far (p := ⟨w.heap.size, 2, none⟩) hlt _).mono (by omega)

set_option maxRecDepth 100000 in
set_option maxHeartbeats 4000000 in
theorem data_any (g L lo n c la ha nb cb : Nat) (A B : Option Addr) (vs : List (ByteArray × Int)) (bs : List Int) (w : World) (h : Cur w g L) (hL : L ≤ 600000) (os : DVr w lo A n c vs) (hlo : g < lo) (hn : n ≤ 8) (ob : OwnI w la ha B nb cb bs) (hla : g < la) (hnb : 1 ≤ nb) (hnb2 : nb ≤ 1000) (hbd : ∀ j, j < nb → -1 ≤ bs[j]?.getD 0 ∧ bs[j]?.getD 0 ≤ 1000) :
    Calls Tryz.prog 79 #[.pointer (some ⟨g, 0, none⟩), .slice A n c, .slice B nb cb] w (DRecs 22 g (L + 300) w) := by
  obtain ⟨i0, hi, hz0, hz1, hz2⟩ := info_parts Tryz.infoRecord
  have hlt := h.lt
  have HBD := Lib.hid hbd
  have OS := Lib.hid os
  have OB := Lib.hid ob
  clear os ob hbd
  go_enter Tryz.func79, Tryz.ntmps79
  go_wp2_with fail
  refine (pick_any g _ _ _ h (by omega) (by omega)).mono ?_
  rintro e w0 ⟨v, rfl, hv0, hv1, hc0, hg0⟩
  replace hv1 : v ≤ 11 := by simpa using hv1
  obtain ⟨kk, hkk⟩ := Int.eq_ofNat_of_zero_le hv0
  subst hkk
  have hk11 : kk ≤ 11 := by omega
  clear hv0 hv1 h
  go_wp2_with fail
  go_loopw [7, 8] (fun a i wr => ∃ (k m : Nat) (E : Option Addr) (ce : Nat), i = .int .i64 k ∧ a = .slice E m ce ∧ k ≤ 11 ∧ m + 2 * k ≤ 22 ∧ DRs wr w.heap.size E m ce ∧ Cur wr g (L + 2 + 24 * (11 - k)) ∧ Chg g (g + 1) w wr) (fun _ i _ => (intOf i).toNat)
  case atStart => exact ⟨kk, 0, none, 0, rfl, rfl, hk11, by omega, DRs.nil_, hc0.mono (by omega), hg0⟩
  case round =>
    clear hc0 hg0 hk11
    obtain ⟨k, m, E, ce, rfl, rfl, hk, hmk, hD, hc, hG⟩ := hrel
    obtain ⟨wo, rfl⟩ : ∃ wo : World, wo = wr := ⟨_, rfl⟩
    have hz := hG.size
    by_cases h0 : 0 < k
    · have hd : decide ((0 : Int) < (k : Int)) = true := by simpa using h0
      have hos := OS.out.chg hG hlo
      have hob := OB.out.chg hG (.inr (by omega))
      go_wp2_with fail
      refine (record_any g _ lo n c la ha nb cb A B vs bs _ hc (by omega) hos hlo hn hob hla hnb hnb2 HBD.out).mono ?_
      rintro e w1 ⟨x, y, V, mv, cv, xs, rfl, hmv, ov, hc1, hg1⟩
      have D1 := hD.chg hg1 (by omega)
      have hG1 := hG.trans hg1
      have z1 := hg1.size
      have ov1 : OwnI w1 w.heap.size w1.heap.size V mv cv xs := ov.fit (by omega)
      clear hD hc hG hg1 ov hos hob
      have b2 := below_new w1 (.cells #[.int .i64 x, .int .i64 y, .slice V mv cv] 79)
      have x2 := box_new w1 #[.int .i64 x, .int .i64 y, .slice V mv cv] 79
      have D2 := D1.below b2
      have hc2 := hc1.below b2
      have hG2 := hG1.then_ b2
      have z2 := b2.size
      have ov2 : OwnI (w1.alloc (.cells #[.int .i64 x, .int .i64 y, .slice V mv cv] 79)) w.heap.size (w1.alloc (.cells #[.int .i64 x, .int .i64 y, .slice V mv cv] 79)).heap.size V mv cv xs := (ov1.below b2).fit (Nat.le_refl _)
      have hrw : ∀ j, rowOf E = some j → j < w1.heap.size := fun j hj => by obtain ⟨ys, ho, _⟩ := D1.cells; exact (row_ge ho j hj).2
      clear D1 hc1 hG1 ov1 b2
      obtain ⟨ys3, ho3, hr3⟩ := D2.cells
      have HR3 := Lib.hid hr3
      have hrow3 : ∀ j, rowOf E = some j → w.heap.size ≤ j ∧ j < (w1.alloc (.cells #[.int .i64 x, .int .i64 y, .slice V mv cv] 79)).heap.size := fun j hj => row_ge ho3 j hj
      have HV3 := Lib.hid ov2
      clear hr3 D2
      go_wp2_with (at_builtin; refine wp_appG (cs := #[.int .i64 x, .int .i64 y, .slice V mv cv]) rfl _ _ rfl Tryz.underlying25 hi hz0 hz1 hz2 rfl (by omega) (by omega) rfl (by simp [Value.oneCell']) w.heap.size E m ce ys3 rfl ho3 _ rfl (by simp) (by omega) (by omega) ?_; intro A3 c3 w3 own3 grow3 _; have D3 := Lib.hid (DRs.snoc (x := x) (y := y) ho3 HR3.out HV3.out (by omega) grow3 own3); have hc3 := Lib.hid (cur_app hc2 grow3 (fun j hj => by have := hrow3 j hj; omega)); have hG3 := Lib.hid (chg_app hG2 grow3 (fun j hj => (hrow3 j hj).1)); have z3 := grow3.size; have x3 := Lib.hid (box_app2 x2 grow3 (fun e => by have := hrw _ e; omega)); have hv3 := Lib.hid (show OwnI w3 w.heap.size w3.heap.size V mv cv xs from OwnI.of_own (HV3.out.own.far grow3 (fun q hA e => row_ne2 HV3.out.own ho3 (by decide) (by rw [hA]; rfl) e)) HV3.out.small))
      refine (one_any g _ _ _ hc3.out (by omega) (by omega)).mono ?_
      rintro e w4 ⟨b, rfl, hc4, hg4⟩
      have D4 := D3.out.chg hg4 (by omega)
      have hG4 := hG3.out.trans hg4
      have z4 := hg4.size
      have x4 := box_chg x3.out hg4 (by omega)
      have ov4 : OwnI w4 w.heap.size w4.heap.size V mv cv xs := hv3.out.chgT hg4 (by omega)
      clear D3 hc3 hG3 x3 hv3 HR3 HV3 ho3 own3 grow3 hc2 hG2 x2 hrow3 hrw hg4
      cases b
      · clear x4 ov4
        go_wp2
        go_roundw
        case rel => exact ⟨k - 1, m + 1, A3, c3, by go_num, rfl, by omega, by omega, D4, hc4.mono (by omega), hG4⟩
        case measure => simp [intOf]; omega
      · have q0 := box_cell x4 0 _ rfl
        have q1 := box_cell x4 1 _ rfl
        have q2 := box_cell x4 2 _ rfl
        go_wp2_with fail
        refine (rOwn_any x y V mv cv xs _ ov4.ints (by omega)).mono ?_
        rintro e w5 ⟨V5, c5, rfl, o5, b5⟩
        have D5 := D4.below b5
        have hc5 := hc4.below b5
        have hG5 := hG4.then_ b5
        have z5 := b5.size
        have ov5 : OwnI w5 w.heap.size w5.heap.size V5 mv c5 xs := o5.fit (by omega)
        clear D4 hc4 hG4 x4 ov4 q0 q1 q2 b5 o5
        obtain ⟨ys6, ho6, hr6⟩ := D5.cells
        have HR6 := Lib.hid hr6
        have hrow6 : ∀ j, rowOf A3 = some j → w.heap.size ≤ j ∧ j < w5.heap.size := fun j hj => row_ge ho6 j hj
        have HV6 := Lib.hid ov5
        clear hr6 D5
        go_wp2_with (at_builtin; refine wp_appG (cs := #[.int .i64 x, .int .i64 y, .slice V5 mv c5]) rfl _ _ rfl Tryz.underlying25 hi hz0 hz1 hz2 rfl (by omega) (by omega) rfl (by simp [Value.oneCell']) w.heap.size A3 (m + 1) c3 ys6 rfl ho6 _ rfl (by simp) (by omega) (by omega) ?_; intro A6 c6 w6 own6 grow6 _; have D6 := Lib.hid (DRs.snoc (x := x) (y := y) ho6 HR6.out HV6.out (by omega) grow6 own6); have hc6 := Lib.hid (cur_app hc5 grow6 (fun j hj => by have := hrow6 j hj; omega)); have hG6 := Lib.hid (chg_app hG5 grow6 (fun j hj => (hrow6 j hj).1)); have z6 := grow6.size)
        go_roundw
        case rel => exact ⟨k - 1, m + 1 + 1, A6, c6, by go_num, rfl, by omega, by omega, D6.out, hc6.out.mono (by omega), hG6.out⟩
        case measure => simp [intOf]; omega
    · obtain rfl : k = 0 := by omega
      have hm2 : m ≤ 22 := by omega
      have hc9 := hc.mono (show L + 2 + 24 * (11 - 0) ≤ L + 300 by omega)
      clear hc h0
      go_wp2
      go_ret
      exact ⟨E, m, ce, rfl, hm2, hD, hc9, hG⟩

set_option maxRecDepth 100000 in
set_option maxHeartbeats 4000000 in
theorem anyData_any (g L lo n c : Nat) (A : Option Addr) (vs : List (ByteArray × Int)) (w : World) (h : Cur w g L) (hL : L ≤ 500000) (os : DVr w lo A n c vs) (hlo : g < lo) (hn : n ≤ 8) :
    Calls Tryz.prog 54 #[.pointer (some ⟨g, 0, none⟩), .slice A n c] w (DRecs 41 g (L + 1100) w) := by
  have hhi : ∀ b, rowOf A = some b → b < w.heap.size := fun b hb => (row_ge os.own b hb).2
  have hlt := h.lt
  have hc0 := h
  have hG0 := Chg.refl g (g + 1) w
  clear h
  obtain ⟨i0, hi, hz0, hz1, hz2⟩ := info_parts Tryz.infoRecord
  have hzw := Nat.le_refl w.heap.size
  go_enter Tryz.func54, Tryz.ntmps54
  go_wp2_with fail
  have xlit := box_new w #[.int .i64 0, .int .i64 1, .int .i64 2, .int .i64 3] 3
  replace os := os.below (below_new w (.cells #[.int .i64 0, .int .i64 1, .int .i64 2, .int .i64 3] 3))
  have hc1 := hc0.below (below_new w (.cells #[.int .i64 0, .int .i64 1, .int .i64 2, .int .i64 3] 3))
  have hG1 := hG0.alloc (.cells #[.int .i64 0, .int .i64 1, .int .i64 2, .int .i64 3] 3)
  have z1 : w.heap.size + 1 ≤ (w.alloc (.cells #[.int .i64 0, .int .i64 1, .int .i64 2, .int .i64 3] 3)).heap.size := by simp
  clear hc0 hG0
  generalize w.alloc (.cells #[.int .i64 0, .int .i64 1, .int .i64 2, .int .i64 3] 3) = u1 at *
  have olit := own_lit [0, 1, 2, 3] xlit (by decide)
  clear xlit
  refine (data_any g _ lo n c _ _ 4 _ A _ vs [0, 1, 2, 3] _ hc1 (by omega) os hlo hn olit (by omega) (by omega) (by omega) (by decide)).mono ?_
  rintro e w2 ⟨E, m, ce, rfl, hm22, od, hc2, hg2⟩
  replace os := os.chg hg2 (by omega)
  replace olit := olit.chg hg2 (by omega)
  have hG2 := hG1.trans hg2
  have z2 := hg2.size
  clear hc1 hG1 hg2
  clear olit
  replace od := od.mono (show w.heap.size ≤ _ by omega)
  go_wp2_with fail
  refine (pick_any g _ _ _ hc2 (by omega) (by omega)).mono ?_
  rintro e w3 ⟨v3, rfl, v3l, v3u, hc3, hg3⟩
  replace os := os.chg hg3 (by omega)
  replace od := od.chg hg3 (by omega)
  have hG3 := hG2.trans hg3
  have z3 := hg3.size
  clear hc2 hG2 hg3
  replace v3u : v3 ≤ 23 := by simpa using v3u
  by_cases tv30 : v3 = 0
  · subst tv30
    go_wp2_with fail
    have xlit4 := box_new w3 #[.int .i64 (-1), .int .i64 29, .int .i64 30] 3
    replace os := os.below (below_new w3 (.cells #[.int .i64 (-1), .int .i64 29, .int .i64 30] 3))
    replace od := od.below (below_new w3 (.cells #[.int .i64 (-1), .int .i64 29, .int .i64 30] 3))
    have hc4 := hc3.below (below_new w3 (.cells #[.int .i64 (-1), .int .i64 29, .int .i64 30] 3))
    have hG4 := hG3.alloc (.cells #[.int .i64 (-1), .int .i64 29, .int .i64 30] 3)
    have z4 : w3.heap.size + 1 ≤ (w3.alloc (.cells #[.int .i64 (-1), .int .i64 29, .int .i64 30] 3)).heap.size := by simp
    clear hc3 hG3
    generalize w3.alloc (.cells #[.int .i64 (-1), .int .i64 29, .int .i64 30] 3) = u4 at *
    have olit4 := own_lit [-1, 29, 30] xlit4 (by decide)
    clear xlit4
    refine (among_any g _ _ _ _ _ _ (-1) (30) [-1, 29, 30] _ hc4 (by omega) olit4 (by omega) (by decide) (by decide) (by decide)).mono ?_
    rintro e w5 ⟨v5, rfl, v5l, v5u, hc5, hg5⟩
    replace os := os.chg hg5 (by omega)
    replace od := od.chg hg5 (by omega)
    have hG5 := hG4.trans hg5
    have z5 := hg5.size
    clear hc4 hG4 hg5
    clear olit4
    go_wp2_with fail
    have xlit6 := box_new w5 #[.int .i64 0, .int .i64 999, .int .i64 1000, .int .i64 (-1)] 3
    replace os := os.below (below_new w5 (.cells #[.int .i64 0, .int .i64 999, .int .i64 1000, .int .i64 (-1)] 3))
    replace od := od.below (below_new w5 (.cells #[.int .i64 0, .int .i64 999, .int .i64 1000, .int .i64 (-1)] 3))
    have hc6 := hc5.below (below_new w5 (.cells #[.int .i64 0, .int .i64 999, .int .i64 1000, .int .i64 (-1)] 3))
    have hG6 := hG5.alloc (.cells #[.int .i64 0, .int .i64 999, .int .i64 1000, .int .i64 (-1)] 3)
    have z6 : w5.heap.size + 1 ≤ (w5.alloc (.cells #[.int .i64 0, .int .i64 999, .int .i64 1000, .int .i64 (-1)] 3)).heap.size := by simp
    clear hc5 hG5
    generalize w5.alloc (.cells #[.int .i64 0, .int .i64 999, .int .i64 1000, .int .i64 (-1)] 3) = u6 at *
    have olit6 := own_lit [0, 999, 1000, -1] xlit6 (by decide)
    clear xlit6
    refine (among_any g _ _ _ _ _ _ (-1) (1000) [0, 999, 1000, -1] _ hc6 (by omega) olit6 (by omega) (by decide) (by decide) (by decide)).mono ?_
    rintro e w7 ⟨v7, rfl, v7l, v7u, hc7, hg7⟩
    replace os := os.chg hg7 (by omega)
    replace od := od.chg hg7 (by omega)
    have hG7 := hG6.trans hg7
    have z7 := hg7.size
    clear hc6 hG6 hg7
    clear olit6
    go_wp2_with fail
    refine (anyValues_any g _ lo n c A vs _ hc7 (by omega) os hlo hn).mono ?_
    rintro e w8 ⟨V, mv, cv, xs, rfl, hmv, ov, hc8, hg8⟩
    replace os := os.chg hg8 (by omega)
    replace od := od.chg hg8 (by omega)
    have hG8 := hG7.trans hg8
    have z8 := hg8.size
    clear hc7 hG7 hg8
    have ov2 := OwnI.fit ov (show w.heap.size ≤ _ by omega)
    clear ov
    obtain ⟨ys90, ho90, hr90⟩ := od.cells
    have HR90 := Lib.hid hr90
    have hrow90 : ∀ j, rowOf E = some j → w.heap.size ≤ j ∧ j < w8.heap.size := fun j hj => row_ge ho90 j hj
    have HV90 := Lib.hid ov2
    clear hr90 od
    go_wp2_with (at_builtin; refine wp_appG (cs := #[.int .i64 v5, .int .i64 v7, .slice V mv cv]) rfl _ _ rfl Tryz.underlying25 hi hz0 hz1 hz2 rfl (by omega) (by omega) rfl (by simp [Value.oneCell']) w.heap.size E m ce ys90 rfl ho90 _ rfl (by simp) (by omega) (by omega) ?_; intro A90 c90 w90 own90 grow90 _; have D90 := Lib.hid (DRs.snoc (x := v5) (y := v7) ho90 HR90.out HV90.out (by omega) grow90 own90); have hc90 := Lib.hid (cur_app hc8 grow90 (fun j hj => by have := hrow90 j hj; omega)); have hG90 := Lib.hid (chg_app hG8 grow90 (fun j hj => (hrow90 j hj).1)); have z90 := grow90.size)
    go_wp2
    go_ret
    exact ⟨A90, m + 1, c90, rfl, by omega, D90.out, hc90.out.mono (by omega), hG90.out⟩
  · have tv30E : (v3 == 0) = false := by rw [beq_eq_false_iff_ne]; exact tv30
    by_cases tv31 : v3 = 1
    · subst tv31
      have hos0 := Lib.hid os
      have hG00 := Lib.hid (hG3)
      go_wp2_with fail
      go_loopw [5] (fun a wr => ∃ (E : Option Addr) (k ce : Nat), a = .slice E k ce ∧ k ≤ 41 ∧ DRs wr w.heap.size E k ce ∧ DVr wr lo A n c vs ∧ Cur wr g (L + 304 + 18 * k) ∧ Chg g (g + 1) w wr) (fun a _ => 41 - (match a with | .slice _ k _ => k | _ => 0))
      case atStart => exact ⟨E, m, ce, rfl, by omega, od, os, hc3.mono (by omega), hG3⟩
      case round =>
        clear od os hc3 hG3 hm22 hos0 hG00
        obtain ⟨E, k, ce, rfl, hk, od, os, hc, hG⟩ := hrel
        have hz := hG.size
        go_wp2_with fail
        refine (pick_any g _ _ _ hc (by omega) (by omega)).mono ?_
        rintro e w7 ⟨u, rfl, hu0, hu1, hc7, hg7⟩
        replace hu1 : u ≤ 1 := by simpa using hu1
        replace od := od.chg hg7 (by omega)
        replace os := os.chg hg7 (by omega)
        have hG7 := hG.trans hg7
        have z7 := hg7.size
        clear hc hG hg7
        by_cases hlk : (k : Int) < 40 + u
        · have hd : decide ((k : Int) < 40 + u) = true := by simpa using hlk
          have hk2 : k + 1 ≤ 41 := by omega
          go_wp2_with fail
          refine (values_any g _ lo n c A vs _ hc7 (by omega) os hlo hn).mono ?_
          rintro e w8 ⟨V, mv, cv, xs, rfl, hmv, ov, hc8, hg8⟩
          replace od := od.chg hg8 (by omega)
          replace os := os.chg hg8 (by omega)
          have hG8 := hG7.trans hg8
          have z8 := hg8.size
          have ov2 := OwnI.fit ov (show w.heap.size ≤ _ by omega)
          clear hc7 hG7 hg8 ov
          obtain ⟨ys9, ho9, hr9⟩ := od.cells
          have HR9 := Lib.hid hr9
          have hrow9 : ∀ j, rowOf E = some j → w.heap.size ≤ j ∧ j < w8.heap.size := fun j hj => row_ge ho9 j hj
          have HV9 := Lib.hid ov2
          clear hr9 od
          go_wp2_with (at_builtin; refine wp_appG (cs := #[.int .i64 0, .int .i64 0, .slice V mv cv]) rfl _ _ rfl Tryz.underlying25 hi hz0 hz1 hz2 rfl (by omega) (by omega) rfl (by simp [Value.oneCell']) w.heap.size E k ce ys9 rfl ho9 _ rfl (by simp) (by omega) (by omega) ?_; intro A9 c9 w9 own9 grow9 _; have D9 := Lib.hid (DRs.snoc (x := 0) (y := 0) ho9 HR9.out HV9.out (by omega) grow9 own9); have hc9 := Lib.hid (cur_app hc8 grow9 (fun j hj => by have := hrow9 j hj; omega)); have hG9 := Lib.hid (chg_app hG8 grow9 (fun j hj => (hrow9 j hj).1)); have z9 := grow9.size)
          have os9 : DVr w9 lo A n c vs := ⟨row_keep os.own (fun b hb hA hq => grow9.block b hq (fun e => by have h1 := (hrow9 b e.symm).1; have h2 := hhi b hA; omega)), os.bd⟩
          clear own9 grow9 ho9 HR9 HV9 os hc8 hG8 hrow9
          go_roundw
          case rel => exact ⟨A9, k + 1, c9, rfl, by omega, D9.out, os9, hc9.out.mono (by omega), hG9.out⟩
          case measure => simp; omega
        · have hd : decide ((k : Int) < 40 + u) = false := by simpa using hlk
          go_wp2
          go_ret
          exact ⟨E, k, ce, rfl, hk, od, hc7.mono (by omega), hG7⟩
    · have tv31E : (v3 == 1) = false := by rw [beq_eq_false_iff_ne]; exact tv31
      go_wp2
      go_ret
      exact ⟨E, m, ce, rfl, by omega, od, hc3.mono (by omega), hG3⟩

set_option maxRecDepth 100000 in
set_option maxHeartbeats 4000000 in
theorem fixed_any (g L lo n c : Nat) (A : Option Addr) (vs : List (ByteArray × Int)) (w : World) (h : Cur w g L) (hL : L ≤ 700000) (_os : DVr w lo A n c vs) (_hlo : g < lo) (hn : n ≤ 8) :
    Calls Tryz.prog 55 #[.pointer (some ⟨g, 0, none⟩), .slice A n c] w (DInts 9 g (L + 30) w) := by
  have hlt := h.lt
  have hzw := Nat.le_refl w.heap.size
  go_enter Tryz.func55, Tryz.ntmps55
  go_wp2_with fail
  go_loopw [5, 9] (fun a i wr => ∃ (k m : Nat) (E : Option Addr) (ce : Nat) (xs : List Int), k ≤ n ∧ m ≤ k ∧ i = .int .i64 k ∧ a = .slice E m ce ∧ OwnI wr w.heap.size wr.heap.size E m ce xs ∧ Cur wr g (L + 2 * k) ∧ Chg g (g + 1) w wr) (fun _ i _ => n - (intOf i).toNat)
  case atStart => exact ⟨0, 0, none, 0, [], Nat.zero_le _, Nat.le_refl _, rfl, rfl, ⟨Own.nil_, (fun k hk => by cases hk), by omega⟩, h.mono (by omega), Chg.refl _ _ _⟩
  case round =>
    clear h
    obtain ⟨k, m, E, ce, xs, hk, hmk, rfl, rfl, hO, hc, hG⟩ := hrel
    obtain ⟨wo, rfl⟩ : ∃ wo : World, wo = wr := ⟨_, rfl⟩
    have hz := hG.size
    by_cases hlt2 : k < n
    · go_wp2_with fail
      refine (one_any g _ _ _ hc (by omega) (by omega)).mono ?_
      rintro e w4 ⟨b, rfl, hc4, hg4⟩
      have hO4 := hO.chg hg4 (by omega)
      have hG4 := hG.trans hg4
      have z4 := hg4.size
      clear hO hc hG hg4
      cases b
      · go_wp2
        go_roundw
        case rel => exact ⟨k + 1, m, E, ce, xs, by omega, by omega, by go_num, rfl, OwnI.fit hO4 (Nat.le_refl _), hc4.mono (by omega), hG4⟩
        case measure => simp [intOf]; omega
      · go_wp2_with (at_builtin; refine wp_app1 rfl _ _ rfl w.heap.size E m ce _ rfl hO4.own _ rfl rfl (by omega) (by omega) ?_; intro A3 c3 w6 hown2 hg2 _)
        have hrow : ∀ j, rowOf E = some j → w.heap.size ≤ j := fun j hj => (hO4.row j hj).1
        have hc6 := cur_app hc4 hg2 (fun j hj => by have := hrow j hj; omega)
        have hG6 := chg_app hG4 hg2 hrow
        have hO6 := OwnI.of_own hown2 (by omega)
        clear hO4 hc4 hG4 hg2 hown2
        go_roundw
        case rel => exact ⟨k + 1, m + 1, A3, c3, _, by omega, by omega, by go_num, rfl, hO6, hc6.mono (by omega), hG6⟩
        case measure => simp [intOf]; omega
    · obtain rfl : n = k := by omega
      go_wp2_with fail
      refine (one_any g _ _ _ hc (by omega) (by omega)).mono ?_
      rintro e w4 ⟨b, rfl, hc4, hg4⟩
      have ov := hO.chg hg4 (by omega)
      have hG4 := hG.trans hg4
      have z4 := hg4.size
      clear hO hc hG hg4
      cases b
      · go_wp2
        go_ret
        exact ⟨E, m, ce, xs, rfl, by omega, OwnI.fit ov (by omega), hc4.mono (by omega), hG4⟩
      · go_wp2_with (at_builtin; refine wp_app1 rfl _ _ rfl w.heap.size E m ce _ rfl ov.own _ rfl rfl (by omega) (by omega) ?_; intro A9 c9 w9 hown2 hg2 _)
        have hrow : ∀ j, rowOf E = some j → w.heap.size ≤ j := fun j hj => (ov.row j hj).1
        have hc9 := cur_app hc4 hg2 (fun j hj => by have := hrow j hj; omega)
        have hG9 := chg_app hG4 hg2 hrow
        have hO9 := OwnI.of_own hown2 (by omega)
        clear ov hg2 hown2 hc4 hG4
        go_wp2
        go_ret
        exact ⟨A9, m + 1, c9, _, rfl, by omega, OwnI.fit hO9 (by omega), hc9.mono (by omega), hG9⟩
end
end Go.Proofs.YtahbcnclhohnaaaGreat
