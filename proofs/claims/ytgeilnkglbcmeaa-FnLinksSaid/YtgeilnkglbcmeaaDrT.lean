/- Drawn inputs: noise tables with data, records with keys. -/
import Derived.Test.YtgeilnkglbcmeaaDrO
namespace Go.Proofs.Ytgeilnkglbcmeaa
open Go.RowKit

/-- A drawn noise table, a seed, a schema, data and key variables. -/
def DKT (w : World) (e : Ending) (w' : World) : Prop := ∃ (T : Option Addr) (n0 c0 : Nat) (sd : Int) (A1 : Option Addr) (n1 c1 : Nat) (vs : List (ByteArray × Int)) (B : Option Addr) (m d : Nat) (U : Option Addr) (l k : Nat) (us : List Int), e = .returned (.tuple #[.agg #[.slice T n0 c0], .int .i64 sd, .slice A1 n1 c1, .slice B m d, .slice U l k]) ∧ n0 ≤ 21 ∧ DNt w' w.heap.size w'.heap.size T n0 c0 0 ∧ n1 ≤ 8 ∧ DVr w' w.heap.size A1 n1 c1 vs ∧ m ≤ 41 ∧ DRs w' w.heap.size B m d ∧ l ≤ 9 ∧ OwnI w' w.heap.size w'.heap.size U l k us ∧ Below w.heap.size w w'
set_option maxRecDepth 100000 in
set_option maxHeartbeats 4000000 in
theorem drawKeyedTable_any (A : Option Addr) (n c : Nat) (w : World) (hb : Byt w A n) (hn : n ≤ 9223372036854775807) :
    Calls Try.prog 24 #[.slice A n c] w (DKT w) := by
  obtain ⟨b0, xr, xc⟩ := box_two w #[.slice none 0 0] #[.slice A n c, .int .i64 0, .int .u64 0] 33 100
  have S := Lib.hid (show ((w.alloc (.cells #[.slice none 0 0] 33)).alloc (.cells #[.slice A n c, .int .i64 0, .int .u64 0] 100)).heap.size = w.heap.size + 1 + 1 by simp)
  have hc0 : Cur _ (w.heap.size + 1) 0 := cur_new2 xc (by omega) hb (fun b hb => b0.block b hb) hn
  have hG0 : Chg (w.heap.size + 1) (w.heap.size + 1 + 1) w _ := Chg.of_below b0
  clear xc b0
  go_enter Try.func24, Try.ntmps24
  go_wp2_with fail
  generalize (w.alloc (.cells #[.slice none 0 0] 33)).alloc (.cells #[.slice A n c, .int .i64 0, .int .u64 0] 100) = w0 at *
  refine (anySchema_any _ _ _ hc0 (by omega)).mono ?_
  rintro e w1 ⟨A1, n1, c1, vs, rfl, hn1, od, hc1, hg1⟩
  replace xr := box_chg xr hg1 (by omega)
  have s0 : w.heap.size + 1 + 1 ≤ w0.heap.size := by have := S.out; omega
  replace od := od.mono (show w.heap.size + 1 + 1 ≤ _ by omega)
  have hG1 := hG0.trans hg1
  have z1 := hg1.size
  clear hc0 hG0 hg1
  go_wp2_with fail
  refine (noiseTable_any _ _ _ hc1 (by omega)).mono ?_
  rintro e w2 ⟨T, n0, c0, rfl, hn0, ot, hc2, hg2⟩
  replace xr := box_chg xr hg2 (by omega)
  replace od := od.chg hg2 (by omega)
  replace ot := ot.fit (show w.heap.size + 1 + 1 ≤ _ by omega)
  have hG2 := hG1.trans hg2
  have z2 := hg2.size
  clear hc1 hG1 hg2
  go_wp2_with fail
  refine (anySeed_any _ _ _ hc2 (by omega)).mono ?_
  rintro e w3 ⟨sd, rfl, _, _, hc3, hg3⟩
  replace xr := box_chg xr hg3 (by omega)
  replace od := od.chg hg3 (by omega)
  replace ot := ot.chg hg3 (by omega)
  have hG3 := hG2.trans hg3
  have z3 := hg3.size
  clear hc2 hG2 hg3
  go_wp2_with fail
  refine (anyData_any _ _ (w.heap.size + 1 + 1) n1 c1 A1 vs _ hc3 (by omega) od (by omega) (by omega)).mono ?_
  rintro e w4 ⟨B, m, d, rfl, hm, or_, hc4, hg4⟩
  replace xr := box_chg xr hg4 (by omega)
  replace od := od.chg hg4 (by omega)
  replace ot := ot.chg hg4 (by omega)
  replace or_ := or_.mono (show w.heap.size + 1 + 1 ≤ _ by omega)
  have hG4 := hG3.trans hg4
  have z4 := hg4.size
  clear hc3 hG3 hg4
  go_wp2_with fail
  refine (someVars_any _ _ (w.heap.size + 1 + 1) n1 c1 A1 vs _ hc4 (by omega) od (by omega) (by omega)).mono ?_
  rintro e w5 ⟨U, l, k, us, rfl, hl, ou, hc5, hg5⟩
  replace xr := box_chg xr hg5 (by omega)
  replace od := od.chg hg5 (by omega)
  replace ot := ot.chg hg5 (by omega)
  replace or_ := or_.chg hg5 (by omega)
  replace ou := ou.fit (show w.heap.size + 1 + 1 ≤ _ by omega)
  replace ot := ot.fit (Nat.le_refl _)
  have hG5 := hG4.trans hg5
  have z5 := hg5.size
  clear hc4 hG4 hg5
  have p0 := box_cell xr 0 _ rfl
  have f0 := box_free xr 0
  have l0 := lt_of_block xr
  have hk : Chg w.heap.size (w.heap.size + 1) w5 (w5.setCell ⟨w.heap.size, 0, none⟩ (.slice T n0 c0)) := (Chg.refl w.heap.size (w.heap.size + 1) w5).set (Nat.le_refl _) (by omega)
  have HT := Lib.hid ((ot.chg hk (.inr (by omega))).fit (show w.heap.size ≤ _ by omega))
  have HD := Lib.hid ((od.chg hk (by omega)).mono (show w.heap.size ≤ _ by omega))
  have HR := Lib.hid ((or_.chg hk (by omega)).mono (show w.heap.size ≤ _ by omega))
  have HU := Lib.hid (OwnI.fit (ou.chg hk (.inr (by omega))) (show w.heap.size ≤ _ by omega))
  have HB := Lib.hid (Chg.to_below (Nat.le_refl _) ((hG5.mono (show w.heap.size ≤ w.heap.size + 1 by omega) (Nat.le_refl _)).trans (hk.mono (Nat.le_refl _) (by omega))))
  have r0 := box_cell (box_set xr 0 (.slice T n0 c0)) 0 _ rfl
  clear hk ot od or_ ou hG5 hc5
  go_wp2
  exact bodyPost_ret (v := .tuple #[.agg #[.slice T n0 c0], .int .i64 sd, .slice A1 n1 c1, .slice B m d, .slice U l k]) (by simp [results, Try.results24, go_sem, r0]) rfl ⟨T, n0, c0, sd, A1, n1, c1, vs, B, m, d, U, l, k, us, rfl, hn0, HT.out, by omega, HD.out, hm, HR.out, hl, HU.out, HB.out⟩

/-- A drawn noise table and a number. -/
def DPC (w : World) (e : Ending) (w' : World) : Prop := ∃ (T : Option Addr) (n0 c0 : Nat) (x : Int), e = .returned (.tuple #[.agg #[.slice T n0 c0], .int .i64 x]) ∧ n0 ≤ 21 ∧ DNt w' w.heap.size w'.heap.size T n0 c0 0 ∧ -1 ≤ x ∧ x ≤ 1000001 ∧ Below w.heap.size w w'
set_option maxRecDepth 100000 in
set_option maxHeartbeats 4000000 in
theorem drawPossibleCounts_any (A : Option Addr) (n c : Nat) (w : World) (hb : Byt w A n) (hn : n ≤ 9223372036854775807) :
    Calls Try.prog 28 #[.slice A n c] w (DPC w) := by
  obtain ⟨b0, xr, xc⟩ := box_two w #[.slice none 0 0] #[.slice A n c, .int .i64 0, .int .u64 0] 33 100
  have S := Lib.hid (show ((w.alloc (.cells #[.slice none 0 0] 33)).alloc (.cells #[.slice A n c, .int .i64 0, .int .u64 0] 100)).heap.size = w.heap.size + 1 + 1 by simp)
  have hc0 : Cur _ (w.heap.size + 1) 0 := cur_new2 xc (by omega) hb (fun b hb => b0.block b hb) hn
  have hG0 : Chg (w.heap.size + 1) (w.heap.size + 1 + 1) w _ := Chg.of_below b0
  clear xc b0
  go_enter Try.func28, Try.ntmps28
  go_wp2_with fail
  generalize (w.alloc (.cells #[.slice none 0 0] 33)).alloc (.cells #[.slice A n c, .int .i64 0, .int .u64 0] 100) = w0 at *
  refine (noiseTable_any _ _ _ hc0 (by omega)).mono ?_
  rintro e w1 ⟨T, n0, c0, rfl, hn0, ot, hc1, hg1⟩
  replace xr := box_chg xr hg1 (by omega)
  have s0 : w.heap.size + 1 + 1 ≤ w0.heap.size := by have := S.out; omega
  replace ot := ot.fit (show w.heap.size + 1 + 1 ≤ _ by omega)
  have hG1 := hG0.trans hg1
  have z1 := hg1.size
  clear hc0 hG0 hg1
  have bl := below_new w1 (.cells #[.int .i64 0, .int .i64 1, .int .i64 2, .int .i64 3, .int .i64 4, .int .i64 5, .int .i64 9, .int .i64 1000000, .int .i64 1000001, .int .i64 (-1)] 3)
  have xl := box_new w1 #[.int .i64 0, .int .i64 1, .int .i64 2, .int .i64 3, .int .i64 4, .int .i64 5, .int .i64 9, .int .i64 1000000, .int .i64 1000001, .int .i64 (-1)] 3
  have ol := own_lit [0, 1, 2, 3, 4, 5, 9, 1000000, 1000001, -1] xl (by decide)
  have hc2 := hc1.below bl
  have hG2 := hG1.then_ bl
  have z2 := bl.size
  replace xr := box_below xr bl
  replace ot := ot.below bl
  clear hc1 hG1 bl xl
  go_wp2_with fail
  generalize w1.alloc (.cells #[.int .i64 0, .int .i64 1, .int .i64 2, .int .i64 3, .int .i64 4, .int .i64 5, .int .i64 9, .int .i64 1000000, .int .i64 1000001, .int .i64 (-1)] 3) = w2 at *
  refine (among_any _ _ _ _ _ _ _ (-1) 1000001 [0, 1, 2, 3, 4, 5, 9, 1000000, 1000001, -1] _ hc2 (by omega) ol (by omega) (by decide) (by decide) (by decide)).mono ?_
  rintro e w3 ⟨x, rfl, x0, x1, hc3, hg3⟩
  replace xr := box_chg xr hg3 (by omega)
  replace ot := ot.chg hg3 (by omega)
  replace ot := ot.fit (Nat.le_refl _)
  have hG3 := hG2.trans hg3
  have z3 := hg3.size
  clear hc2 hG2 hg3
  have p0 := box_cell xr 0 _ rfl
  have f0 := box_free xr 0
  have l0 := lt_of_block xr
  have hk : Chg w.heap.size (w.heap.size + 1) w3 (w3.setCell ⟨w.heap.size, 0, none⟩ (.slice T n0 c0)) := (Chg.refl w.heap.size (w.heap.size + 1) w3).set (Nat.le_refl _) (by omega)
  have HT := Lib.hid ((ot.chg hk (.inr (by omega))).fit (show w.heap.size ≤ _ by omega))
  have HB := Lib.hid (Chg.to_below (Nat.le_refl _) ((hG3.mono (show w.heap.size ≤ w.heap.size + 1 by omega) (Nat.le_refl _)).trans (hk.mono (Nat.le_refl _) (by omega))))
  have r0 := box_cell (box_set xr 0 (.slice T n0 c0)) 0 _ rfl
  clear hk ot hG3 hc3 ol
  go_wp2
  exact bodyPost_ret (v := .tuple #[.agg #[.slice T n0 c0], .int .i64 x]) (by simp [results, Try.results28, go_sem, r0]) rfl ⟨T, n0, c0, x, rfl, hn0, HT.out, x0, x1, HB.out⟩
end Go.Proofs.Ytgeilnkglbcmeaa
