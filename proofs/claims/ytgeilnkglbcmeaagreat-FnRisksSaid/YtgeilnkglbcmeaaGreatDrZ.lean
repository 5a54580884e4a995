/- Drawn inputs of the risks. -/
import Derived.Test.YtgeilnkglbcmeaaGreatZp
namespace Go.Proofs.YtgeilnkglbcmeaaGreat
open Go.RowKit

set_option maxRecDepth 100000 in
set_option maxHeartbeats 2000000 in
theorem drawLinkRisk_any (A : Option Addr) (n c : Nat) (w : World) (hb : Byt w A n) (hn : n ≤ 9223372036854775807) :
    Calls Tryz.prog 5 #[.slice A n c] w (DLk w) := by
  go_enter Tryz.func5, Tryz.ntmps5
  go_wp2_with fail
  refine (drawLinkSets_any _ _ _ _ hb hn).mono ?_
  rintro e w1 ⟨A1, n1, c1, vs, B, m, d, C, m2, d2, U, l, k, us, rfl, h⟩
  have H := Lib.hid h
  clear h
  go_wp2
  exact bodyPost_ret (v := .tuple #[.slice A1 n1 c1, .slice B m d, .slice C m2 d2, .slice U l k]) (by simp [results, Tryz.results5, go_sem]) rfl ⟨A1, n1, c1, vs, B, m, d, C, m2, d2, U, l, k, us, rfl, H.out⟩

def DLi (w : World) (e : Ending) (w' : World) : Prop := ∃ (A1 : Option Addr) (n1 c1 : Nat) (vs : List (ByteArray × Int)) (B : Option Addr) (m d : Nat) (i : Int), e = .returned (.tuple #[.slice A1 n1 c1, .slice B m d, .int .i64 i]) ∧ n1 ≤ 8 ∧ DVr w' w.heap.size A1 n1 c1 vs ∧ m ≤ 41 ∧ DRs w' w.heap.size B m d ∧ Below w.heap.size w w'
def DLd (w : World) (e : Ending) (w' : World) : Prop := ∃ (A1 : Option Addr) (n1 c1 : Nat) (vs : List (ByteArray × Int)) (B : Option Addr) (m d : Nat) (U : Option Addr) (l k : Nat) (us : List Int) (i : Int), e = .returned (.tuple #[.slice A1 n1 c1, .slice B m d, .slice U l k, .int .i64 i]) ∧ n1 ≤ 8 ∧ DVr w' w.heap.size A1 n1 c1 vs ∧ m ≤ 41 ∧ DRs w' w.heap.size B m d ∧ OwnI w' w.heap.size w'.heap.size U l k us ∧ Below w.heap.size w w'
theorem quo19 {v : Int} (h0 : 0 ≤ v) (h1 : v ≤ 20) : 0 ≤ v.tdiv 19 ∧ v.tdiv 19 ≤ 1 := by
  rw [Int.tdiv_eq_ediv_of_nonneg h0]
  omega

set_option maxRecDepth 100000 in
set_option maxHeartbeats 4000000 in
theorem drawLeastIdentifying_any (A : Option Addr) (n c : Nat) (w : World) (hb : Byt w A n) (hn : n ≤ 9223372036854775807) :
    Calls Tryz.prog 13 #[.slice A n c] w (DLi w) := by
  have xc := box_new w #[.slice A n c, .int .i64 0, .int .u64 0] 59
  have b0 := below_new w (.cells #[.slice A n c, .int .i64 0, .int .u64 0] 59)
  have S := Lib.hid (show (w.alloc (.cells #[.slice A n c, .int .i64 0, .int .u64 0] 59)).heap.size = w.heap.size + 1 by simp)
  have hc0 : Cur _ w.heap.size 0 := cur_new2 xc (by omega) hb (fun b hb => b0.block b hb) hn
  have hb0 := hb.below b0
  clear xc
  go_enter Tryz.func13, Tryz.ntmps13
  go_wp2_with fail
  generalize w.alloc (.cells #[.slice A n c, .int .i64 0, .int .u64 0] 59) = w0 at *
  refine (drawKeyGroups_any _ _ _ _ hb0 hn).mono ?_
  rintro e w1 ⟨A1, n1, c1, vs, B, m, d, U, l, k, us, rfl, hn1, od, hm, or_, hl, ou, b1⟩
  have s0 : w.heap.size + 1 ≤ w0.heap.size := by have := S.out; omega
  have hc1 := hc0.below b1
  have B1 := b0.trans (b1.mono (by omega))
  have z1 := b1.size
  clear hb0 hc0 b0 b1
  replace od := od.mono (show w.heap.size + 1 ≤ _ by omega)
  replace or_ := or_.mono (show w.heap.size + 1 ≤ _ by omega)
  replace ou := ou.fit (show w.heap.size + 1 ≤ _ by omega)
  go_wp2_with fail
  refine (pick_any _ _ _ _ hc1 (by omega) (by omega)).mono ?_
  rintro e w2 ⟨v, rfl, hv0, hv1, hc2, hg2⟩
  have hv2 : v ≤ 50 := by split at hv1 <;> omega
  replace od := od.chg hg2 (by omega)
  replace or_ := or_.chg hg2 (by omega)
  replace ou := ou.chg hg2 (by omega)
  have G2 := (Chg.of_below (lo := w.heap.size) (hi := w.heap.size + 1) B1).trans hg2
  have z2 := hg2.size
  clear hc1 hg2 hv1 B1
  go_wp2_with fail
  refine (pick_any _ _ _ _ hc2 (by omega) (by omega)).mono ?_
  rintro e w3 ⟨v3, rfl, hw0, hw1, hc3, hg3⟩
  have hw2 : v3 ≤ 20 := by split at hw1 <;> omega
  have hq := quo19 hw0 hw2
  obtain ⟨q, hqe⟩ : ∃ q, v3.tdiv 19 = q := ⟨_, rfl⟩
  rw [hqe] at hq
  obtain ⟨hq0, hq1⟩ := hq
  have HD := Lib.hid ((od.chg hg3 (by omega)).mono (show w.heap.size ≤ _ by omega))
  have HR := Lib.hid ((or_.chg hg3 (by omega)).mono (show w.heap.size ≤ _ by omega))
  have HU := Lib.hid ((ou.chg hg3 (by omega)).fit (show w.heap.size ≤ _ by omega))
  have HB := Lib.hid (Chg.to_below (Nat.le_refl _) (G2.trans hg3))
  clear od or_ ou hg3 hc3 hc2 G2 hw1
  go_wp2
  exact bodyPost_ret (v := .tuple #[.slice A1 n1 c1, .slice B m d, .int .i64 (v - q)]) (by simp [results, Tryz.results13, go_sem]) rfl ⟨A1, n1, c1, vs, B, m, d, v - q, rfl, hn1, HD.out, hm, HR.out, HB.out⟩

set_option maxRecDepth 100000 in
set_option maxHeartbeats 4000000 in
theorem drawLeastDiversity_any (A : Option Addr) (n c : Nat) (w : World) (hb : Byt w A n) (hn : n ≤ 9223372036854775807) :
    Calls Tryz.prog 17 #[.slice A n c] w (DLd w) := by
  have xc := box_new w #[.slice A n c, .int .i64 0, .int .u64 0] 59
  have b0 := below_new w (.cells #[.slice A n c, .int .i64 0, .int .u64 0] 59)
  have S := Lib.hid (show (w.alloc (.cells #[.slice A n c, .int .i64 0, .int .u64 0] 59)).heap.size = w.heap.size + 1 by simp)
  have hc0 : Cur _ w.heap.size 0 := cur_new2 xc (by omega) hb (fun b hb => b0.block b hb) hn
  have hb0 := hb.below b0
  clear xc
  go_enter Tryz.func17, Tryz.ntmps17
  go_wp2_with fail
  generalize w.alloc (.cells #[.slice A n c, .int .i64 0, .int .u64 0] 59) = w0 at *
  refine (drawKeyGroups_any _ _ _ _ hb0 hn).mono ?_
  rintro e w1 ⟨A1, n1, c1, vs, B, m, d, U, l, k, us, rfl, hn1, od, hm, or_, hl, ou, b1⟩
  have s0 : w.heap.size + 1 ≤ w0.heap.size := by have := S.out; omega
  have hc1 := hc0.below b1
  have B1 := b0.trans (b1.mono (by omega))
  have z1 := b1.size
  clear hb0 hc0 b0 b1
  replace od := od.mono (show w.heap.size + 1 ≤ _ by omega)
  replace or_ := or_.mono (show w.heap.size + 1 ≤ _ by omega)
  replace ou := ou.fit (show w.heap.size + 1 ≤ _ by omega)
  go_wp2_with fail
  refine (pick_any _ _ _ _ hc1 (by omega) (by omega)).mono ?_
  rintro e w2 ⟨v, rfl, hv0, hv1, hc2, hg2⟩
  have hv2 : v ≤ 50 := by split at hv1 <;> omega
  replace od := od.chg hg2 (by omega)
  replace or_ := or_.chg hg2 (by omega)
  replace ou := ou.chg hg2 (by omega)
  have G2 := (Chg.of_below (lo := w.heap.size) (hi := w.heap.size + 1) B1).trans hg2
  have z2 := hg2.size
  clear hc1 hg2 hv1 B1
  go_wp2_with fail
  refine (pick_any _ _ _ _ hc2 (by omega) (by omega)).mono ?_
  rintro e w3 ⟨v3, rfl, hw0, hw1, hc3, hg3⟩
  have hw2 : v3 ≤ 20 := by split at hw1 <;> omega
  have hq := quo19 hw0 hw2
  obtain ⟨q, hqe⟩ : ∃ q, v3.tdiv 19 = q := ⟨_, rfl⟩
  rw [hqe] at hq
  obtain ⟨hq0, hq1⟩ := hq
  have HD := Lib.hid ((od.chg hg3 (by omega)).mono (show w.heap.size ≤ _ by omega))
  have HR := Lib.hid ((or_.chg hg3 (by omega)).mono (show w.heap.size ≤ _ by omega))
  have HU := Lib.hid ((ou.chg hg3 (by omega)).fit (show w.heap.size ≤ _ by omega))
  have HB := Lib.hid (Chg.to_below (Nat.le_refl _) (G2.trans hg3))
  clear od or_ ou hg3 hc3 hc2 G2 hw1
  go_wp2
  exact bodyPost_ret (v := .tuple #[.slice A1 n1 c1, .slice B m d, .slice U l k, .int .i64 (v - q)]) (by simp [results, Tryz.results17, go_sem]) rfl ⟨A1, n1, c1, vs, B, m, d, U, l, k, us, v - q, rfl, hn1, HD.out, hm, HR.out, HU.out, HB.out⟩
end Go.Proofs.YtgeilnkglbcmeaaGreat
