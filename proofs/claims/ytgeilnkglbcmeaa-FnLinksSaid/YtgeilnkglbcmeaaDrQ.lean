/- Drawn records with their schemas. -/
import Derived.Test.YtgeilnkglbcmeaaDrT
namespace Go.Proofs.Ytgeilnkglbcmeaa
open Go.RowKit

theorem DVr.keepB {w w' : World} {A : Option Addr} {n c lo : Nat} {vs : List (ByteArray × Int)} (h : DVr w lo A n c vs) (hk : ∀ b, rowOf A = some b → w'.heap[b]? = w.heap[b]?) : DVr w' lo A n c vs := ⟨row_keep h.own fun g _ hA _ => hk g hA, h.bd⟩

/-- A drawn schema and a record. -/
def DIR (w : World) (e : Ending) (w' : World) : Prop := ∃ (A1 : Option Addr) (n1 c1 : Nat) (vs : List (ByteArray × Int)) (x y : Int) (V : Option Addr) (m cv : Nat) (xs : List Int), e = .returned (.tuple #[.slice A1 n1 c1, .agg #[.int .i64 x, .int .i64 y, .slice V m cv]]) ∧ n1 ≤ 8 ∧ DVr w' w.heap.size A1 n1 c1 vs ∧ m ≤ 9 ∧ OwnI w' w.heap.size w'.heap.size V m cv xs ∧ Below w.heap.size w w'

set_option maxRecDepth 100000 in
set_option maxHeartbeats 4000000 in
theorem drawIsRecord_any (A : Option Addr) (n c : Nat) (w : World) (hb : Byt w A n) (hn : n ≤ 9223372036854775807) :
    Calls Try.prog 75 #[.slice A n c] w (DIR w) := by
  obtain ⟨b0, xr, xc⟩ := box_two w #[.int .i64 0, .int .i64 0, .slice none 0 0] #[.slice A n c, .int .i64 0, .int .u64 0] 53 100
  have S := Lib.hid (show ((w.alloc (.cells #[.int .i64 0, .int .i64 0, .slice none 0 0] 53)).alloc (.cells #[.slice A n c, .int .i64 0, .int .u64 0] 100)).heap.size = w.heap.size + 1 + 1 by simp)
  have hc0 : Cur _ (w.heap.size + 1) 0 := cur_new2 xc (by omega) hb (fun b hb => b0.block b hb) hn
  have hG0 : Chg (w.heap.size + 1) (w.heap.size + 1 + 1) w _ := Chg.of_below b0
  clear xc b0
  go_enter Try.func75, Try.ntmps75
  go_wp2_with fail
  generalize (w.alloc (.cells #[.int .i64 0, .int .i64 0, .slice none 0 0] 53)).alloc (.cells #[.slice A n c, .int .i64 0, .int .u64 0] 100) = w0 at *
  refine (anySchema_any _ _ _ hc0 (by omega)).mono ?_
  rintro e w1 ⟨A1, n1, c1, vs, rfl, hn1, od, hc1, hg1⟩
  replace xr := box_chg xr hg1 (by omega)
  have s0 : w.heap.size + 1 + 1 ≤ w0.heap.size := by have := S.out; omega
  replace od := od.mono (show w.heap.size + 1 + 1 ≤ _ by omega)
  have hda : ∀ b, rowOf A1 = some b → b < w1.heap.size := fun b hb => (row_ge od.own b hb).2
  have hG1 := hG0.trans hg1
  have z1 := hg1.size
  clear hc0 hG0 hg1
  have bl2 := below_new w1 (.cells #[.int .i64 0, .int .i64 1, .int .i64 29] 3)
  have xl2 := box_new w1 #[.int .i64 0, .int .i64 1, .int .i64 29] 3
  have ol2 := own_lit [0, 1, 29] xl2 (by decide)
  have hc2 := hc1.below bl2
  have hG2 := hG1.then_ bl2
  have z2 := bl2.size
  have y2 : w1.heap.size < (w1.alloc (.cells #[.int .i64 0, .int .i64 1, .int .i64 29] 3)).heap.size := by simp
  replace xr := box_below xr bl2
  replace od := od.below bl2
  clear hc1 hG1 bl2 xl2
  go_wp2_with fail
  generalize w1.alloc (.cells #[.int .i64 0, .int .i64 1, .int .i64 29] 3) = w2 at *
  refine (record_any _ _ (w.heap.size + 1 + 1) n1 c1 _ _ 3 _ A1 _ vs [0, 1, 29] _ hc2 (by omega) od (by omega) (by omega) ol2 (by omega) (by omega) (by omega) (by decide)).mono ?_
  rintro e w3 ⟨x, y, V, m, cv, xs, rfl, hm, ov, hc3, hg3⟩
  replace xr := box_chg xr hg3 (by omega)
  replace od := od.chg hg3 (by omega)
  replace ov : OwnI w3 (w.heap.size + 1 + 1) w3.heap.size V m cv xs := OwnI.fit ov (by omega)
  have hG3 := hG2.trans hg3
  have z3 := hg3.size
  clear ol2 hc2 hG2 hg3
  have b4 := below_new w3 (.cells #[.int .i64 x, .int .i64 y, .slice V m cv] 53)
  have xb := box_new w3 #[.int .i64 x, .int .i64 y, .slice V m cv] 53
  have hc4 := hc3.below b4
  have hG4 := hG3.then_ b4
  have z4 := b4.size
  have y4 := lt_of_block xb
  replace xr := box_below xr b4
  replace od := od.below b4
  replace ov := ov.below b4
  clear hc3 hG3 b4
  go_wp2_with fail
  generalize w3.alloc (.cells #[.int .i64 x, .int .i64 y, .slice V m cv] 53) = w4 at *
  refine (pick_any _ _ _ _ hc4 (by omega) (by omega)).mono ?_
  rintro e w5 ⟨v, rfl, v0, v1, hc5, hg5⟩
  replace xr := box_chg xr hg5 (by omega)
  replace xb := box_chg xb hg5 (by omega)
  replace od := od.chg hg5 (by omega)
  replace ov := ov.chg hg5 (by omega)
  have hG5 := hG4.trans hg5
  have z5 := hg5.size
  clear hc4 hG4 hg5
  clear v1
  by_cases t0 : v = 0
  · subst t0
    have bl6 := below_new w5 (.cells #[.int .i64 (-1), .int .i64 30, .int .i64 29] 3)
    have xl6 := box_new w5 #[.int .i64 (-1), .int .i64 30, .int .i64 29] 3
    have ol6 := own_lit [-1, 30, 29] xl6 (by decide)
    have hc6 := hc5.below bl6
    have hG6 := hG5.then_ bl6
    have z6 := bl6.size
    have y6 : w5.heap.size < (w5.alloc (.cells #[.int .i64 (-1), .int .i64 30, .int .i64 29] 3)).heap.size := by simp
    replace xr := box_below xr bl6
    replace xb := box_below xb bl6
    replace od := od.below bl6
    replace ov := ov.below bl6
    clear hc5 hG5 bl6 xl6
    go_wp2_with fail
    generalize w5.alloc (.cells #[.int .i64 (-1), .int .i64 30, .int .i64 29] 3) = w6 at *
    refine (among_any _ _ _ _ _ _ _ (-1) 1000 [-1, 30, 29] _ hc6 (by omega) ol6 (by omega) (by decide) (by decide) (by decide)).mono ?_
    rintro e w7 ⟨q, rfl, _, _, hc7, hg7⟩
    replace xr := box_chg xr hg7 (by omega)
    replace xb := box_chg xb hg7 (by omega)
    replace od := od.chg hg7 (by omega)
    replace ov := ov.chg hg7 (by omega)
    have hG7 := hG6.trans hg7
    have z7 := hg7.size
    clear hc6 hG6 hg7
    clear ol6
    have i0 := box_cell xb 0 _ rfl
    have i1 := box_cell xb 1 _ rfl
    have i2 := box_cell xb 2 _ rfl
    have f0 := box_free xb 0
    have f1 := box_free xb 1
    have f2 := box_free xb 2
    have hq : Chg w3.heap.size (w3.heap.size + 1) w7 (w7.setCell ⟨w3.heap.size, 0, none⟩ (.int .i64 q)) := (Chg.refl _ _ _).set (Nat.le_refl _) (by omega)
    replace od := od.keepB (w' := w7.setCell ⟨w3.heap.size, 0, none⟩ (.int .i64 q)) (fun b hb => hq.block b (by have := hda b hb; omega) (.inl (by have := hda b hb; omega)))
    replace ov := ov.chg hq (by omega)
    replace xr := box_chg xr hq (.inl (by omega))
    have xb2 := box_set xb 0 (.int .i64 q)
    have hG8 := hG7.setNewD (p := ⟨w3.heap.size, 0, none⟩) (by show w.heap.size ≤ w3.heap.size; omega) (.int .i64 q)
    have hc8 := hc7.far (p := ⟨w3.heap.size, 0, none⟩) (by show w.heap.size + 1 < w3.heap.size; omega) (.int .i64 q)
    have y8 : w.heap.size + 1 + 1 ≤ (w7.setCell ⟨w3.heap.size, 0, none⟩ (.int .i64 q)).heap.size := by simp [World.setCell]; omega
    go_wp2_with fail
    clear i0 i1 i2 f0 f1 f2 hq xb hG7 hc7
    have xb := xb2
    clear xb2
    generalize w7.setCell ⟨w3.heap.size, 0, none⟩ (.int .i64 q) = w8 at *
    have i0 := box_cell xb 0 _ rfl
    have i1 := box_cell xb 1 _ rfl
    have i2 := box_cell xb 2 _ rfl
    have p0 := box_cell xr 0 _ rfl
    have f0 := box_free xr 0
    have p1 := box_cell xr 1 _ rfl
    have f1 := box_free xr 1
    have p2 := box_cell xr 2 _ rfl
    have f2 := box_free xr 2
    have l0 := lt_of_block xr
    have hk : Chg w.heap.size (w.heap.size + 1) w8 (World.drew (((w8.setCell ⟨w.heap.size, 0, none⟩ (.int .i64 q)).setCell ⟨w.heap.size, 1, none⟩ (.int .i64 y)).setCell ⟨w.heap.size, 2, none⟩ (.slice V m cv))) := ((((Chg.refl w.heap.size (w.heap.size + 1) w8).set (Nat.le_refl _) (by omega)).set (Nat.le_refl _) (by omega)).set (Nat.le_refl _) (by omega)).trans (Chg.of_below (Below.refl _ _).drew)
    have xj := box_chg xb hk (.inr (by omega))
    have j0 := box_cell xj 0 _ rfl
    have j1 := box_cell xj 1 _ rfl
    have j2 := box_cell xj 2 _ rfl
    have HD := Lib.hid ((od.chg hk (by omega)).mono (show w.heap.size ≤ _ by omega))
    have HV := Lib.hid (OwnI.fit (ov.chg hk (.inr (by omega))) (show w.heap.size ≤ _ by omega))
    have HB := Lib.hid (Chg.to_below (Nat.le_refl _) ((hG8.mono (show w.heap.size ≤ w.heap.size + 1 by omega) (Nat.le_refl _)).trans (hk.mono (Nat.le_refl _) (by omega))))
    have q3 := box_set (box_set (box_set xr 0 (.int .i64 q)) 1 (.int .i64 y)) 2 (.slice V m cv)
    have r0 := box_cell q3 0 (.int .i64 q) rfl
    have r1 := box_cell q3 1 (.int .i64 y) rfl
    have r2 := box_cell q3 2 (.slice V m cv) rfl
    clear hk od ov hG8 hc8 q3 xj
    go_wp2_with fail
    go_region_held3 (fun w' => w'.cell? ⟨w3.heap.size, 0, none⟩ = some (.int .i64 q) ∧ w'.cell? ⟨w3.heap.size, 1, none⟩ = some (.int .i64 y) ∧ w'.cell? ⟨w3.heap.size, 2, none⟩ = some (.slice V m cv)) (first | exact ⟨i0, i1, i2⟩ | exact ⟨j0, j1, j2⟩ | go_keep) (fail)
    go_wp2
    exact bodyPost_ret (v := .tuple #[.slice A1 n1 c1, .agg #[.int .i64 q, .int .i64 y, .slice V m cv]]) (by simp [results, Try.results75, go_sem, r0, r1, r2]) rfl ⟨A1, n1, c1, vs, q, y, V, m, cv, xs, rfl, by omega, HD.out, by omega, HV.out, HB.out⟩
  have t0E : (v == 0) = false := by rw [beq_eq_false_iff_ne]; exact t0
  by_cases t1 : v = 1
  · subst t1
    have bl6 := below_new w5 (.cells #[.int .i64 (-1), .int .i64 999, .int .i64 1000] 3)
    have xl6 := box_new w5 #[.int .i64 (-1), .int .i64 999, .int .i64 1000] 3
    have ol6 := own_lit [-1, 999, 1000] xl6 (by decide)
    have hc6 := hc5.below bl6
    have hG6 := hG5.then_ bl6
    have z6 := bl6.size
    have y6 : w5.heap.size < (w5.alloc (.cells #[.int .i64 (-1), .int .i64 999, .int .i64 1000] 3)).heap.size := by simp
    replace xr := box_below xr bl6
    replace xb := box_below xb bl6
    replace od := od.below bl6
    replace ov := ov.below bl6
    clear hc5 hG5 bl6 xl6
    go_wp2_with fail
    generalize w5.alloc (.cells #[.int .i64 (-1), .int .i64 999, .int .i64 1000] 3) = w6 at *
    refine (among_any _ _ _ _ _ _ _ (-1) 1000 [-1, 999, 1000] _ hc6 (by omega) ol6 (by omega) (by decide) (by decide) (by decide)).mono ?_
    rintro e w7 ⟨q, rfl, _, _, hc7, hg7⟩
    replace xr := box_chg xr hg7 (by omega)
    replace xb := box_chg xb hg7 (by omega)
    replace od := od.chg hg7 (by omega)
    replace ov := ov.chg hg7 (by omega)
    have hG7 := hG6.trans hg7
    have z7 := hg7.size
    clear hc6 hG6 hg7
    clear ol6
    have i0 := box_cell xb 0 _ rfl
    have i1 := box_cell xb 1 _ rfl
    have i2 := box_cell xb 2 _ rfl
    have f0 := box_free xb 0
    have f1 := box_free xb 1
    have f2 := box_free xb 2
    have hq : Chg w3.heap.size (w3.heap.size + 1) w7 (w7.setCell ⟨w3.heap.size, 1, none⟩ (.int .i64 q)) := (Chg.refl _ _ _).set (Nat.le_refl _) (by omega)
    replace od := od.keepB (w' := w7.setCell ⟨w3.heap.size, 1, none⟩ (.int .i64 q)) (fun b hb => hq.block b (by have := hda b hb; omega) (.inl (by have := hda b hb; omega)))
    replace ov := ov.chg hq (by omega)
    replace xr := box_chg xr hq (.inl (by omega))
    have xb2 := box_set xb 1 (.int .i64 q)
    have hG8 := hG7.setNewD (p := ⟨w3.heap.size, 1, none⟩) (by show w.heap.size ≤ w3.heap.size; omega) (.int .i64 q)
    have hc8 := hc7.far (p := ⟨w3.heap.size, 1, none⟩) (by show w.heap.size + 1 < w3.heap.size; omega) (.int .i64 q)
    have y8 : w.heap.size + 1 + 1 ≤ (w7.setCell ⟨w3.heap.size, 1, none⟩ (.int .i64 q)).heap.size := by simp [World.setCell]; omega
    go_wp2_with fail
    clear i0 i1 i2 f0 f1 f2 hq xb hG7 hc7
    have xb := xb2
    clear xb2
    generalize w7.setCell ⟨w3.heap.size, 1, none⟩ (.int .i64 q) = w8 at *
    have i0 := box_cell xb 0 _ rfl
    have i1 := box_cell xb 1 _ rfl
    have i2 := box_cell xb 2 _ rfl
    have p0 := box_cell xr 0 _ rfl
    have f0 := box_free xr 0
    have p1 := box_cell xr 1 _ rfl
    have f1 := box_free xr 1
    have p2 := box_cell xr 2 _ rfl
    have f2 := box_free xr 2
    have l0 := lt_of_block xr
    have hk : Chg w.heap.size (w.heap.size + 1) w8 (World.drew (((w8.setCell ⟨w.heap.size, 0, none⟩ (.int .i64 x)).setCell ⟨w.heap.size, 1, none⟩ (.int .i64 q)).setCell ⟨w.heap.size, 2, none⟩ (.slice V m cv))) := ((((Chg.refl w.heap.size (w.heap.size + 1) w8).set (Nat.le_refl _) (by omega)).set (Nat.le_refl _) (by omega)).set (Nat.le_refl _) (by omega)).trans (Chg.of_below (Below.refl _ _).drew)
    have xj := box_chg xb hk (.inr (by omega))
    have j0 := box_cell xj 0 _ rfl
    have j1 := box_cell xj 1 _ rfl
    have j2 := box_cell xj 2 _ rfl
    have HD := Lib.hid ((od.chg hk (by omega)).mono (show w.heap.size ≤ _ by omega))
    have HV := Lib.hid (OwnI.fit (ov.chg hk (.inr (by omega))) (show w.heap.size ≤ _ by omega))
    have HB := Lib.hid (Chg.to_below (Nat.le_refl _) ((hG8.mono (show w.heap.size ≤ w.heap.size + 1 by omega) (Nat.le_refl _)).trans (hk.mono (Nat.le_refl _) (by omega))))
    have q3 := box_set (box_set (box_set xr 0 (.int .i64 x)) 1 (.int .i64 q)) 2 (.slice V m cv)
    have r0 := box_cell q3 0 (.int .i64 x) rfl
    have r1 := box_cell q3 1 (.int .i64 q) rfl
    have r2 := box_cell q3 2 (.slice V m cv) rfl
    clear hk od ov hG8 hc8 q3 xj
    go_wp2_with fail
    go_region_held3 (fun w' => w'.cell? ⟨w3.heap.size, 0, none⟩ = some (.int .i64 x) ∧ w'.cell? ⟨w3.heap.size, 1, none⟩ = some (.int .i64 q) ∧ w'.cell? ⟨w3.heap.size, 2, none⟩ = some (.slice V m cv)) (first | exact ⟨i0, i1, i2⟩ | exact ⟨j0, j1, j2⟩ | go_keep) (fail)
    go_wp2
    exact bodyPost_ret (v := .tuple #[.slice A1 n1 c1, .agg #[.int .i64 x, .int .i64 q, .slice V m cv]]) (by simp [results, Try.results75, go_sem, r0, r1, r2]) rfl ⟨A1, n1, c1, vs, x, q, V, m, cv, xs, rfl, by omega, HD.out, by omega, HV.out, HB.out⟩
  have t1E : (v == 1) = false := by rw [beq_eq_false_iff_ne]; exact t1
  by_cases t2 : v = 2
  · subst t2
    clear ov
    go_wp2_with fail
    refine (anyValues_any _ _ (w.heap.size + 1 + 1) n1 c1 A1 vs _ hc5 (by omega) od (by omega) (by omega)).mono ?_
    rintro e w6 ⟨V2, m2, cv2, xs2, rfl, hm2, ov, hc6, hg6⟩
    replace xr := box_chg xr hg6 (by omega)
    replace xb := box_chg xb hg6 (by omega)
    replace od := od.chg hg6 (by omega)
    have hG6 := hG5.trans hg6
    have z6 := hg6.size
    clear hc5 hG5 hg6
    have i0 := box_cell xb 0 _ rfl
    have i1 := box_cell xb 1 _ rfl
    have i2 := box_cell xb 2 _ rfl
    have f0 := box_free xb 0
    have f1 := box_free xb 1
    have f2 := box_free xb 2
    have hq : Chg w3.heap.size (w3.heap.size + 1) w6 (w6.setCell ⟨w3.heap.size, 2, none⟩ (.slice V2 m2 cv2)) := (Chg.refl _ _ _).set (Nat.le_refl _) (by omega)
    replace od := od.keepB (w' := w6.setCell ⟨w3.heap.size, 2, none⟩ (.slice V2 m2 cv2)) (fun b hb => hq.block b (by have := hda b hb; omega) (.inl (by have := hda b hb; omega)))
    replace ov := ov.chg hq (by omega)
    replace xr := box_chg xr hq (.inl (by omega))
    have xb2 := box_set xb 2 (.slice V2 m2 cv2)
    have hG7 := hG6.setNewD (p := ⟨w3.heap.size, 2, none⟩) (by show w.heap.size ≤ w3.heap.size; omega) (.slice V2 m2 cv2)
    have hc7 := hc6.far (p := ⟨w3.heap.size, 2, none⟩) (by show w.heap.size + 1 < w3.heap.size; omega) (.slice V2 m2 cv2)
    have y7 : w.heap.size + 1 + 1 ≤ (w6.setCell ⟨w3.heap.size, 2, none⟩ (.slice V2 m2 cv2)).heap.size := by simp [World.setCell]; omega
    go_wp2_with fail
    clear i0 i1 i2 f0 f1 f2 hq xb hG6 hc6
    have xb := xb2
    clear xb2
    generalize w6.setCell ⟨w3.heap.size, 2, none⟩ (.slice V2 m2 cv2) = w7 at *
    have i0 := box_cell xb 0 _ rfl
    have i1 := box_cell xb 1 _ rfl
    have i2 := box_cell xb 2 _ rfl
    have p0 := box_cell xr 0 _ rfl
    have f0 := box_free xr 0
    have p1 := box_cell xr 1 _ rfl
    have f1 := box_free xr 1
    have p2 := box_cell xr 2 _ rfl
    have f2 := box_free xr 2
    have l0 := lt_of_block xr
    have hk : Chg w.heap.size (w.heap.size + 1) w7 (World.drew (((w7.setCell ⟨w.heap.size, 0, none⟩ (.int .i64 x)).setCell ⟨w.heap.size, 1, none⟩ (.int .i64 y)).setCell ⟨w.heap.size, 2, none⟩ (.slice V2 m2 cv2))) := ((((Chg.refl w.heap.size (w.heap.size + 1) w7).set (Nat.le_refl _) (by omega)).set (Nat.le_refl _) (by omega)).set (Nat.le_refl _) (by omega)).trans (Chg.of_below (Below.refl _ _).drew)
    have xj := box_chg xb hk (.inr (by omega))
    have j0 := box_cell xj 0 _ rfl
    have j1 := box_cell xj 1 _ rfl
    have j2 := box_cell xj 2 _ rfl
    have HD := Lib.hid ((od.chg hk (by omega)).mono (show w.heap.size ≤ _ by omega))
    have HV := Lib.hid (OwnI.fit (ov.chg hk (.inr (by omega))) (show w.heap.size ≤ _ by omega))
    have HB := Lib.hid (Chg.to_below (Nat.le_refl _) ((hG7.mono (show w.heap.size ≤ w.heap.size + 1 by omega) (Nat.le_refl _)).trans (hk.mono (Nat.le_refl _) (by omega))))
    have q3 := box_set (box_set (box_set xr 0 (.int .i64 x)) 1 (.int .i64 y)) 2 (.slice V2 m2 cv2)
    have r0 := box_cell q3 0 (.int .i64 x) rfl
    have r1 := box_cell q3 1 (.int .i64 y) rfl
    have r2 := box_cell q3 2 (.slice V2 m2 cv2) rfl
    clear hk od ov hG7 hc7 q3 xj
    go_wp2_with fail
    go_region_held3 (fun w' => w'.cell? ⟨w3.heap.size, 0, none⟩ = some (.int .i64 x) ∧ w'.cell? ⟨w3.heap.size, 1, none⟩ = some (.int .i64 y) ∧ w'.cell? ⟨w3.heap.size, 2, none⟩ = some (.slice V2 m2 cv2)) (first | exact ⟨i0, i1, i2⟩ | exact ⟨j0, j1, j2⟩ | go_keep) (fail)
    go_wp2
    exact bodyPost_ret (v := .tuple #[.slice A1 n1 c1, .agg #[.int .i64 x, .int .i64 y, .slice V2 m2 cv2]]) (by simp [results, Try.results75, go_sem, r0, r1, r2]) rfl ⟨A1, n1, c1, vs, x, y, V2, m2, cv2, xs2, rfl, by omega, HD.out, by omega, HV.out, HB.out⟩
  have t2E : (v == 2) = false := by rw [beq_eq_false_iff_ne]; exact t2
  have i0 := box_cell xb 0 _ rfl
  have i1 := box_cell xb 1 _ rfl
  have i2 := box_cell xb 2 _ rfl
  have p0 := box_cell xr 0 _ rfl
  have f0 := box_free xr 0
  have p1 := box_cell xr 1 _ rfl
  have f1 := box_free xr 1
  have p2 := box_cell xr 2 _ rfl
  have f2 := box_free xr 2
  have l0 := lt_of_block xr
  have hk : Chg w.heap.size (w.heap.size + 1) w5 (World.drew (((w5.setCell ⟨w.heap.size, 0, none⟩ (.int .i64 x)).setCell ⟨w.heap.size, 1, none⟩ (.int .i64 y)).setCell ⟨w.heap.size, 2, none⟩ (.slice V m cv))) := ((((Chg.refl w.heap.size (w.heap.size + 1) w5).set (Nat.le_refl _) (by omega)).set (Nat.le_refl _) (by omega)).set (Nat.le_refl _) (by omega)).trans (Chg.of_below (Below.refl _ _).drew)
  have xj := box_chg xb hk (.inr (by omega))
  have j0 := box_cell xj 0 _ rfl
  have j1 := box_cell xj 1 _ rfl
  have j2 := box_cell xj 2 _ rfl
  have HD := Lib.hid ((od.chg hk (by omega)).mono (show w.heap.size ≤ _ by omega))
  have HV := Lib.hid (OwnI.fit (ov.chg hk (.inr (by omega))) (show w.heap.size ≤ _ by omega))
  have HB := Lib.hid (Chg.to_below (Nat.le_refl _) ((hG5.mono (show w.heap.size ≤ w.heap.size + 1 by omega) (Nat.le_refl _)).trans (hk.mono (Nat.le_refl _) (by omega))))
  have q3 := box_set (box_set (box_set xr 0 (.int .i64 x)) 1 (.int .i64 y)) 2 (.slice V m cv)
  have r0 := box_cell q3 0 (.int .i64 x) rfl
  have r1 := box_cell q3 1 (.int .i64 y) rfl
  have r2 := box_cell q3 2 (.slice V m cv) rfl
  clear hk od ov hG5 hc5 q3 xj
  go_wp2_with fail
  go_region_held3 (fun w' => w'.cell? ⟨w3.heap.size, 0, none⟩ = some (.int .i64 x) ∧ w'.cell? ⟨w3.heap.size, 1, none⟩ = some (.int .i64 y) ∧ w'.cell? ⟨w3.heap.size, 2, none⟩ = some (.slice V m cv)) (first | exact ⟨i0, i1, i2⟩ | exact ⟨j0, j1, j2⟩ | go_keep) (fail)
  go_wp2
  exact bodyPost_ret (v := .tuple #[.slice A1 n1 c1, .agg #[.int .i64 x, .int .i64 y, .slice V m cv]]) (by simp [results, Try.results75, go_sem, r0, r1, r2]) rfl ⟨A1, n1, c1, vs, x, y, V, m, cv, xs, rfl, by omega, HD.out, by omega, HV.out, HB.out⟩

/-- A drawn seed, a schema and a record. -/
def DRk (w : World) (e : Ending) (w' : World) : Prop := ∃ (sd : Int) (A1 : Option Addr) (n1 c1 : Nat) (vs : List (ByteArray × Int)) (x y : Int) (V : Option Addr) (m cv : Nat) (xs : List Int), e = .returned (.tuple #[.int .i64 sd, .slice A1 n1 c1, .agg #[.int .i64 x, .int .i64 y, .slice V m cv]]) ∧ n1 ≤ 8 ∧ DVr w' w.heap.size A1 n1 c1 vs ∧ m ≤ 9 ∧ OwnI w' w.heap.size w'.heap.size V m cv xs ∧ Below w.heap.size w w'
set_option maxRecDepth 100000 in
set_option maxHeartbeats 4000000 in
theorem drawRecordKey_any (A : Option Addr) (n c : Nat) (w : World) (hb : Byt w A n) (hn : n ≤ 9223372036854775807) :
    Calls Try.prog 25 #[.slice A n c] w (DRk w) := by
  have hb9 := hb
  obtain ⟨b0, xr, xc⟩ := box_two w #[.int .i64 0, .int .i64 0, .slice none 0 0] #[.slice A n c, .int .i64 0, .int .u64 0] 53 100
  have S := Lib.hid (show ((w.alloc (.cells #[.int .i64 0, .int .i64 0, .slice none 0 0] 53)).alloc (.cells #[.slice A n c, .int .i64 0, .int .u64 0] 100)).heap.size = w.heap.size + 1 + 1 by simp)
  have hc0 : Cur _ (w.heap.size + 1) 0 := cur_new2 xc (by omega) hb (fun b hb => b0.block b hb) hn
  have hG0 : Chg (w.heap.size + 1) (w.heap.size + 1 + 1) w _ := Chg.of_below b0
  replace hb9 := hb9.below b0
  clear xc b0
  go_enter Try.func25, Try.ntmps25
  go_wp2_with fail
  generalize (w.alloc (.cells #[.int .i64 0, .int .i64 0, .slice none 0 0] 53)).alloc (.cells #[.slice A n c, .int .i64 0, .int .u64 0] 100) = w0 at *
  refine (drawIsRecord_any A n c _ hb9 hn).mono ?_
  rintro e w1 ⟨A1, n1, c1, vs, x, y, V, m, cv, xs, rfl, hn1, od, hm, ov, b1⟩
  have s0 : w.heap.size + 1 + 1 ≤ w0.heap.size := by have := S.out; omega
  replace od := od.mono (show w.heap.size + 1 + 1 ≤ _ by omega)
  replace ov : OwnI w1 (w.heap.size + 1 + 1) w1.heap.size V m cv xs := OwnI.fit ov (by omega)
  have hc1 := hc0.below b1
  have hG1 := hG0.then_ b1
  have z1 := b1.size
  replace xr := box_below xr b1
  clear hc0 hG0 b1 hb9 hb
  have b4 := below_new w1 (.cells #[.int .i64 x, .int .i64 y, .slice V m cv] 53)
  have xb := box_new w1 #[.int .i64 x, .int .i64 y, .slice V m cv] 53
  have hc4 := hc1.below b4
  have hG4 := hG1.then_ b4
  have z4 := b4.size
  have y4 := lt_of_block xb
  replace xr := box_below xr b4
  replace od := od.below b4
  replace ov := ov.below b4
  clear hc1 hG1 b4
  go_wp2_with fail
  generalize w1.alloc (.cells #[.int .i64 x, .int .i64 y, .slice V m cv] 53) = w4 at *
  have i0 := box_cell xb 0 _ rfl
  have i1 := box_cell xb 1 _ rfl
  have i2 := box_cell xb 2 _ rfl
  have HK := Lib.hid (fun (q : World) (hc : Cur q (w.heap.size + 1) 60) (hq : Chg (w.heap.size + 1) (w.heap.size + 1 + 1) w4 q) => (show (q.heap[w1.heap.size]? = some (.cells #[.int .i64 x, .int .i64 y, .slice V m cv] 53 (0, 0))) ∧ (q.heap[w.heap.size]? = some (.cells #[.int .i64 0, .int .i64 0, .slice none 0 0] 53 (0, 0))) ∧ DVr q (w.heap.size + 1 + 1) A1 n1 c1 vs ∧ OwnI q (w.heap.size + 1 + 1) w1.heap.size V m cv xs ∧ Chg (w.heap.size + 1) (w.heap.size + 1 + 1) w q from ⟨box_chg xb hq (by omega), box_chg xr hq (by omega), od.chg hq (by omega), ov.chg hq (by omega), hG4.trans hq⟩))
  clear xr od ov hG4
  go_region_held3 (fun w' => w'.cell? ⟨w1.heap.size, 0, none⟩ = some (.int .i64 x) ∧ w'.cell? ⟨w1.heap.size, 1, none⟩ = some (.int .i64 y) ∧ w'.cell? ⟨w1.heap.size, 2, none⟩ = some (.slice V m cv)) (first | exact ⟨i0, i1, i2⟩ | exact ⟨q0, q1, q2⟩ | exact ⟨j0, j1, j2⟩ | go_keep) ((first | (go_at_call 72; refine (anySeed_any _ _ _ (by exact hc4) (by omega)).mono ?_; rintro e w5 ⟨sd, rfl, _, _, hc5, hg5⟩; replace hg5 : Chg (w.heap.size + 1) (w.heap.size + 1 + 1) w4 w5 := (by first | exact hg5 | exact (Chg.of_below (Below.refl _ _).drew).trans hg5); obtain ⟨xb5, xr5, od5, ov5, hG5⟩ := HK.out w5 (hc5.mono (by omega)) hg5; have q0 := box_cell xb5 0 _ rfl; have q1 := box_cell xb5 1 _ rfl; have q2 := box_cell xb5 2 _ rfl; have p0 := box_cell xr5 0 _ rfl; have p1 := box_cell xr5 1 _ rfl; have p2 := box_cell xr5 2 _ rfl; have f0 := box_free xr5 0; have f1 := box_free xr5 1; have f2 := box_free xr5 2; have l0 := lt_of_block xr5; have hk : Chg w.heap.size (w.heap.size + 1) w5 (((w5.setCell ⟨w.heap.size, 0, none⟩ (.int .i64 x)).setCell ⟨w.heap.size, 1, none⟩ (.int .i64 y)).setCell ⟨w.heap.size, 2, none⟩ (.slice V m cv)) := (((Chg.refl w.heap.size (w.heap.size + 1) w5).set (Nat.le_refl _) (by omega)).set (Nat.le_refl _) (by omega)).set (Nat.le_refl _) (by omega); have xj := box_chg xb5 hk (.inr (by omega)); have j0 := box_cell xj 0 _ rfl; have j1 := box_cell xj 1 _ rfl; have j2 := box_cell xj 2 _ rfl; have HD := Lib.hid ((od5.chg hk (by omega)).mono (show w.heap.size ≤ _ by omega)); have HV := Lib.hid (OwnI.fit (ov5.chg hk (.inr (by omega))) (show w.heap.size ≤ _ by omega)); have HB := Lib.hid (Chg.to_below (Nat.le_refl _) ((hG5.mono (show w.heap.size ≤ w.heap.size + 1 by omega) (Nat.le_refl _)).trans (hk.mono (Nat.le_refl _) (by omega)))); have t3 := box_set (box_set (box_set xr5 0 (.int .i64 x)) 1 (.int .i64 y)) 2 (.slice V m cv); have r0 := box_cell t3 0 (.int .i64 x) rfl; have r1 := box_cell t3 1 (.int .i64 y) rfl; have r2 := box_cell t3 2 (.slice V m cv) rfl; clear hk xb5 xr5 od5 ov5 hG5 xj t3 hc5 hg5) | fail))
  go_wp2
  exact bodyPost_ret (v := .tuple #[.int .i64 sd, .slice A1 n1 c1, .agg #[.int .i64 x, .int .i64 y, .slice V m cv]]) (by simp [results, Try.results25, go_sem, r0, r1, r2]) rfl ⟨sd, A1, n1, c1, vs, x, y, V, m, cv, xs, rfl, by omega, HD.out, by omega, HV.out, HB.out⟩
end Go.Proofs.Ytgeilnkglbcmeaa
