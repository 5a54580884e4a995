/- Powers and sums of fractions, printed by gcn.py. -/
import Derived.Test.YtgfihfmlofgopaaCnQ
namespace Go.Proofs.Ytgfihfmlofgopaa
open Go.RowKit

theorem set_other {w : World} {g a : Nat} {o : Obj} {u v : Value} (h : w.heap[a]? = some o) (hne : a ≠ g) : ((w.setCell ⟨g, 0, none⟩ u).setCell ⟨g, 1, none⟩ v).heap[a]? = some o := by
  rw [Below.heap_setCell _ ⟨g, 1, none⟩ v a hne, Below.heap_setCell _ ⟨g, 0, none⟩ u a hne]; exact h

set_option maxRecDepth 100000 in
set_option maxHeartbeats 4000000 in
theorem powFrac_any (a b : Int) (k : Nat) (w : World) (hf : fracB a b = true) (hk : k ≤ 60) :
    Calls Try.prog 48 #[.agg #[.int .i64 a, .int .i64 b], .int .i64 k] w (RetFr w (powO a b k)) := by
  have HFab := Lib.hid hf
  obtain ⟨hsa, hsb, _⟩ := fracB_sm hf
  obtain ⟨b0, x0, x4⟩ := box_two w #[.int .i64 a, .int .i64 b] #[.int .i64 0, .int .i64 0] 27 27
  go_enter Try.func48, Try.ntmps48
  go_wp2_with fail
  generalize (w.alloc (.cells #[.int .i64 a, .int .i64 b] 27)).alloc (.cells #[.int .i64 0, .int .i64 0] 27) = w1 at *
  refine (isFrac_any _ _ _).mono ?_
  rintro e w2 ⟨rfl, b2⟩
  rw [HFab.out]
  have y0 := box_below x0 b2
  have y4 := box_below x4 b2
  have ly4 := lt_of_block y4
  have x6 := box_new w2 #[.int .i64 1, .int .i64 1] 27
  have b3 := below_new w2 (.cells #[.int .i64 1, .int .i64 1] 27)
  have X0 := Lib.hid (box_below y0 b3)
  have X4 := Lib.hid (box_below y4 b3)
  have X6 := Lib.hid x6
  have HB3 := Lib.hid ((b0.trans (b2.mono b0.size)).trans (b3.mono (b0.trans (b2.mono b0.size)).size))
  clear x0 x4 y0 y4 x6 b0 b2 b3 hf
  go_wp2_with fail
  generalize w2.alloc (.cells #[.int .i64 1, .int .i64 1] 27) = w3 at *
  go_loopw [23] (fun i wr => ∃ (j : Nat) (p q : Int), j ≤ k ∧ i = .int .i64 j ∧ Hid (powO a b j = some (p, q)) ∧ Hid (wr.heap[w.heap.size]? = some (.cells #[.int .i64 a, .int .i64 b] 27 (0, 0))) ∧ Hid (wr.heap[w.heap.size + 1]? = some (.cells #[.int .i64 0, .int .i64 0] 27 (0, 0))) ∧ Hid (wr.heap[w2.heap.size]? = some (.cells #[.int .i64 p, .int .i64 q] 27 (0, 0))) ∧ Hid (Below w.heap.size w wr)) (fun i _ => k - (intOf i).toNat)
  case atStart => exact ⟨0, 1, 1, Nat.zero_le _, rfl, Lib.hid rfl, X0, X4, X6, HB3⟩
  case round =>
    clear X0 X4 X6 HB3
    obtain ⟨j, p, q, hj, rfl, HM, X0, X4, X6, HB⟩ := hrel
    obtain ⟨w3', rfl⟩ : ∃ w3' : World, w3' = wr := ⟨_, rfl⟩
    by_cases hlt : j < k
    · have HF := Lib.hid (powO_frac HM.out)
      have x0c0 := box_cell X0.out 0 _ rfl
      have x0c1 := box_cell X0.out 1 _ rfl
      have l0 := lt_of_block X0.out
      have HM2 := Lib.hid (powO_step HM.out)
      have l6 := lt_of_block X6.out
      have x6c0 := box_cell X6.out 0 _ rfl
      have x6c1 := box_cell X6.out 1 _ rfl
      go_wp2_with fail
      refine (mulFrac_any _ _ _ _ _ HF.out HFab.out).mono ?_
      rintro e w5 ⟨rfl, b5⟩
      clear x6c0 x6c1 x0c0 x0c1
      have Y4 := Lib.hid (box_below X4.out b5)
      have Y6 := Lib.hid (box_below X6.out b5)
      have Y0 := Lib.hid (box_below X0.out b5)
      have HB5 := Lib.hid (HB.out.trans (b5.mono HB.out.size))
      have hsz5 := b5.size
      clear X4 X6 HB b5
      cases hM : mulO p q a b with
      | none =>
        have HR := Lib.hid (fr_none (powO_stop (m := k) (HM2.out.trans hM) (by omega)))
        clear hM
        simp only [fN, fD, fB]
        have b6 := below_new w5 (.cells #[.int .i64 0, .int .i64 0] 27)
        have x4 := box_below Y4.out b6
        have HB6 := Lib.hid (HB5.out.trans (b6.mono HB5.out.size))
        have x4c0 := box_cell x4 0 _ rfl
        have x4c1 := box_cell x4 1 _ rfl
        have x4f0 := box_free x4 0
        have x4f1 := box_free x4 1
        have y0 := store_two x4 (.int .i64 0) (.int .i64 0)
        have e0 := box_cell y0 0 _ rfl
        have e1 := box_cell y0 1 _ rfl
        clear b6
        go_wp2
        refine bodyPost_ret (v := .tuple #[.agg #[.int .i64 0, .int .i64 0], .bool false]) (by simp [results, Try.results48, go_sem, e0, e1]) rfl ⟨by rw [HR.out.1, HR.out.2.1, HR.out.2.2], below_two HB6.out (by omega)⟩
      | some r =>
        obtain ⟨u, v⟩ := r
        have HM3 := Lib.hid (HM2.out.trans hM)
        clear hM HM2
        simp only [fN, fD, fB]
        have b6 := below_new w5 (.cells #[.int .i64 u, .int .i64 v] 27)
        have x4 := box_below Y4.out b6
        have x6 := box_below Y6.out b6
        have x9 := box_new w5 #[.int .i64 u, .int .i64 v] 27
        have x6c0 := box_cell x6 0 _ rfl
        have x6c1 := box_cell x6 1 _ rfl
        have x6f0 := box_free x6 0
        have x6f1 := box_free x6 1
        have x9c0 := box_cell x9 0 _ rfl
        have x9c1 := box_cell x9 1 _ rfl
        have Y4' := Lib.hid (set_other (g := w2.heap.size) (u := .int .i64 u) (v := .int .i64 v) x4 (by omega))
        have Y6' := Lib.hid (store_two x6 (.int .i64 u) (.int .i64 v))
        have Y0' := Lib.hid (set_other (g := w2.heap.size) (u := .int .i64 u) (v := .int .i64 v) (box_below Y0.out b6) (by omega))
        have HB6 := Lib.hid (below_two (g := w2.heap.size) (u := .int .i64 u) (v := .int .i64 v) (HB5.out.trans (b6.mono HB5.out.size)) (by omega))
        clear b6 x4
        go_wp2
        go_roundw
        case rel => exact ⟨j + 1, u, v, by omega, by go_num, HM3, Y0', Y4', Y6', HB6⟩
        case measure => simp [intOf]; omega
    · obtain rfl : j = k := by omega
      have HR := Lib.hid (fr_some HM.out)
      have y0 := store_two X4.out (.int .i64 p) (.int .i64 q)
      have e0 := box_cell y0 0 _ rfl
      have e1 := box_cell y0 1 _ rfl
      have l6 := lt_of_block X6.out
      have x6c0 := box_cell X6.out 0 _ rfl
      have x6c1 := box_cell X6.out 1 _ rfl
      have x4f0 := box_free X4.out 0
      have x4f1 := box_free X4.out 1
      have x4c0 := box_cell X4.out 0 _ rfl
      have x4c1 := box_cell X4.out 1 _ rfl
      go_wp2
      refine bodyPost_ret (v := .tuple #[.agg #[.int .i64 p, .int .i64 q], .bool true]) (by simp [results, Try.results48, go_sem, e0, e1]) rfl ⟨by rw [HR.out.1, HR.out.2.1, HR.out.2.2], below_two HB.out (by omega)⟩

set_option maxRecDepth 100000 in
set_option maxHeartbeats 4000000 in
theorem fPow_any (a b : Int) (k : Nat) (w : World) (hf : fracB a b = true) (hk : k ≤ 60) :
    Calls Try.prog 52 #[.agg #[.int .i64 a, .int .i64 b], .int .i64 k] w (RetFr w (powO a b k)) := by
  have HFab := Lib.hid hf
  obtain ⟨hsa, hsb, _⟩ := fracB_sm hf
  obtain ⟨b0, x0, x4⟩ := box_two w #[.int .i64 a, .int .i64 b] #[.int .i64 0, .int .i64 0] 27 27
  go_enter Try.func52, Try.ntmps52
  go_wp2_with fail
  generalize (w.alloc (.cells #[.int .i64 a, .int .i64 b] 27)).alloc (.cells #[.int .i64 0, .int .i64 0] 27) = w1 at *
  refine (fInt_any _ _).mono ?_
  rintro e w2 ⟨rfl, b2⟩
  have y0 := box_below x0 b2
  have y4 := box_below x4 b2
  have ly4 := lt_of_block y4
  have x6 := box_new w2 #[.int .i64 1, .int .i64 1] 27
  have b3 := below_new w2 (.cells #[.int .i64 1, .int .i64 1] 27)
  have X0 := Lib.hid (box_below y0 b3)
  have X4 := Lib.hid (box_below y4 b3)
  have X6 := Lib.hid x6
  have HB3 := Lib.hid ((b0.trans (b2.mono b0.size)).trans (b3.mono (b0.trans (b2.mono b0.size)).size))
  clear x0 x4 y0 y4 x6 b0 b2 b3 hf
  go_wp2_with fail
  generalize w2.alloc (.cells #[.int .i64 1, .int .i64 1] 27) = w3 at *
  go_loopw [1] (fun i wr => ∃ (j : Nat) (p q : Int), j ≤ k ∧ i = .int .i64 ((k - j : Nat) : Int) ∧ Hid (powO a b j = some (p, q)) ∧ Hid (wr.heap[w.heap.size]? = some (.cells #[.int .i64 a, .int .i64 b] 27 (0, 0))) ∧ Hid (wr.heap[w.heap.size + 1]? = some (.cells #[.int .i64 0, .int .i64 0] 27 (0, 0))) ∧ Hid (wr.heap[w2.heap.size]? = some (.cells #[.int .i64 p, .int .i64 q] 27 (0, 0))) ∧ Hid (Below w.heap.size w wr)) (fun i _ => (intOf i).toNat)
  case atStart => exact ⟨0, 1, 1, Nat.zero_le _, rfl, Lib.hid rfl, X0, X4, X6, HB3⟩
  case round =>
    clear X0 X4 X6 HB3
    obtain ⟨j, p, q, hj, rfl, HM, X0, X4, X6, HB⟩ := hrel
    obtain ⟨w3', rfl⟩ : ∃ w3' : World, w3' = wr := ⟨_, rfl⟩
    by_cases hlt : j < k
    · have HF := Lib.hid (powO_frac HM.out)
      have x0c0 := box_cell X0.out 0 _ rfl
      have x0c1 := box_cell X0.out 1 _ rfl
      have l0 := lt_of_block X0.out
      obtain ⟨hsp, hsq, _⟩ := fracB_sm HF.out
      obtain ⟨kj, hkj⟩ : ∃ kj, k - j = kj + 1 := ⟨k - j - 1, by omega⟩
      have HM2 := Lib.hid (powO_step HM.out)
      have l6 := lt_of_block X6.out
      have x6c0 := box_cell X6.out 0 _ rfl
      have x6c1 := box_cell X6.out 1 _ rfl
      go_wp2_with fail
      refine (fMul_o _ _ _ _ _ hsp hsq hsa hsb).mono ?_
      rintro e w5 ⟨rfl, b5⟩
      clear x6c0 x6c1 x0c0 x0c1
      have Y4 := Lib.hid (box_below X4.out b5)
      have Y6 := Lib.hid (box_below X6.out b5)
      have Y0 := Lib.hid (box_below X0.out b5)
      have HB5 := Lib.hid (HB.out.trans (b5.mono HB.out.size))
      have hsz5 := b5.size
      clear X4 X6 HB b5
      cases hM : mulO p q a b with
      | none =>
        have HR := Lib.hid (fr_none (powO_stop (m := k) (HM2.out.trans hM) (by omega)))
        clear hM
        simp only [fN, fD, fB]
        have b6 := below_new w5 (.cells #[.int .i64 0, .int .i64 0] 27)
        have x4 := box_below Y4.out b6
        have HB6 := Lib.hid (HB5.out.trans (b6.mono HB5.out.size))
        have x4c0 := box_cell x4 0 _ rfl
        have x4c1 := box_cell x4 1 _ rfl
        have x4f0 := box_free x4 0
        have x4f1 := box_free x4 1
        have y0 := store_two x4 (.int .i64 0) (.int .i64 0)
        have e0 := box_cell y0 0 _ rfl
        have e1 := box_cell y0 1 _ rfl
        clear b6
        go_wp2
        refine bodyPost_ret (v := .tuple #[.agg #[.int .i64 0, .int .i64 0], .bool false]) (by simp [results, Try.results52, go_sem, e0, e1]) rfl ⟨by rw [HR.out.1, HR.out.2.1, HR.out.2.2], below_two HB6.out (by omega)⟩
      | some r =>
        obtain ⟨u, v⟩ := r
        have HM3 := Lib.hid (HM2.out.trans hM)
        clear hM HM2
        simp only [fN, fD, fB]
        have b6 := below_new w5 (.cells #[.int .i64 u, .int .i64 v] 27)
        have x4 := box_below Y4.out b6
        have x6 := box_below Y6.out b6
        have x9 := box_new w5 #[.int .i64 u, .int .i64 v] 27
        have x6c0 := box_cell x6 0 _ rfl
        have x6c1 := box_cell x6 1 _ rfl
        have x6f0 := box_free x6 0
        have x6f1 := box_free x6 1
        have x9c0 := box_cell x9 0 _ rfl
        have x9c1 := box_cell x9 1 _ rfl
        have Y4' := Lib.hid (set_other (g := w2.heap.size) (u := .int .i64 u) (v := .int .i64 v) x4 (by omega))
        have Y6' := Lib.hid (store_two x6 (.int .i64 u) (.int .i64 v))
        have Y0' := Lib.hid (set_other (g := w2.heap.size) (u := .int .i64 u) (v := .int .i64 v) (box_below Y0.out b6) (by omega))
        have HB6 := Lib.hid (below_two (g := w2.heap.size) (u := .int .i64 u) (v := .int .i64 v) (HB5.out.trans (b6.mono HB5.out.size)) (by omega))
        clear b6 x4
        go_wp2
        go_roundw
        case rel => exact ⟨j + 1, u, v, by omega, by congr 1; omega, HM3, Y0', Y4', Y6', HB6⟩
        case measure => simp [intOf]; omega
    · obtain rfl : j = k := by omega
      have HR := Lib.hid (fr_some HM.out)
      have y0 := store_two X4.out (.int .i64 p) (.int .i64 q)
      have e0 := box_cell y0 0 _ rfl
      have e1 := box_cell y0 1 _ rfl
      have l6 := lt_of_block X6.out
      have x6c0 := box_cell X6.out 0 _ rfl
      have x6c1 := box_cell X6.out 1 _ rfl
      have x4f0 := box_free X4.out 0
      have x4f1 := box_free X4.out 1
      have x4c0 := box_cell X4.out 0 _ rfl
      have x4c1 := box_cell X4.out 1 _ rfl
      go_wp2
      refine bodyPost_ret (v := .tuple #[.agg #[.int .i64 p, .int .i64 q], .bool true]) (by simp [results, Try.results52, go_sem, e0, e1]) rfl ⟨by rw [HR.out.1, HR.out.2.1, HR.out.2.2], below_two HB.out (by omega)⟩

set_option maxRecDepth 100000 in
set_option maxHeartbeats 4000000 in
theorem sumFracs_any (A : Option Addr) (k c : Nat) (xs : List (Int × Int)) (w : World) (hx : FracsR w A k xs) (hk : k ≤ 100) (hv : ∀ j, j < k → fracB (fx xs j).1 (fx xs j).2 = true) :
    Calls Try.prog 18 #[.slice A k c] w (RetFr w (smO xs k)) := by
  have HX := Lib.hid hx
  have HV := Lib.hid hv
  clear hx hv
  go_enter Try.func18, Try.ntmps18
  obtain ⟨b3, x4, x6⟩ := box_two w #[.int .i64 0, .int .i64 0] #[.int .i64 0, .int .i64 1] 27 27
  have X4 := Lib.hid x4
  have X6 := Lib.hid x6
  have HB3 := Lib.hid b3
  clear x4 x6 b3
  go_wp2_with fail
  generalize (w.alloc (.cells #[.int .i64 0, .int .i64 0] 27)).alloc (.cells #[.int .i64 0, .int .i64 1] 27) = w3 at *
  go_loopw [16] (fun i wr => ∃ (j : Nat) (p q : Int), j ≤ k ∧ i = .int .i64 j ∧ Hid (smO xs j = some (p, q)) ∧ Hid (wr.heap[w.heap.size]? = some (.cells #[.int .i64 0, .int .i64 0] 27 (0, 0))) ∧ Hid (wr.heap[w.heap.size + 1]? = some (.cells #[.int .i64 p, .int .i64 q] 27 (0, 0))) ∧ Hid (Below w.heap.size w wr)) (fun i _ => k - (intOf i).toNat)
  case atStart => exact ⟨0, 0, 1, Nat.zero_le _, rfl, Lib.hid rfl, X4, X6, HB3⟩
  case round =>
    clear X4 X6 HB3
    obtain ⟨j, p, q, hj, rfl, HM, X4, X6, HB⟩ := hrel
    obtain ⟨w3', rfl⟩ : ∃ w3' : World, w3' = wr := ⟨_, rfl⟩
    by_cases hlt : j < k
    · have HF := Lib.hid (smO_frac HM.out)
      obtain ⟨ad, rfl, hc0, hc1⟩ := (HX.out.below HB.out).at_ hlt
      have HE := Lib.hid (HV.out j hlt)
      have hSM := smO_step HM.out
      obtain ⟨⟨ea, eb⟩, hE⟩ : ∃ x, fx xs j = x := ⟨_, rfl⟩
      rw [hE] at hc0 hc1 HE hSM
      clear hE
      have bE := below_new w3' (.cells #[.int .i64 ea, .int .i64 eb] 27)
      have HBE := Lib.hid (HB.out.trans (bE.mono HB.out.size))
      replace X4 := Lib.hid (box_below X4.out bE)
      replace X6 := Lib.hid (box_below X6.out bE)
      have szE : (w3'.alloc (.cells #[.int .i64 ea, .int .i64 eb] 27)).heap.size = w3'.heap.size + 1 := by simp
      have HSE := Lib.hid szE
      clear HB szE bE
      have HB := HBE
      clear HBE
      have HM2 := Lib.hid hSM
      clear hSM
      have l6 := lt_of_block X6.out
      have x6c0 := box_cell X6.out 0 _ rfl
      have x6c1 := box_cell X6.out 1 _ rfl
      go_wp2_with fail
      refine (addFrac_any _ _ _ _ _ HF.out HE.out).mono ?_
      rintro e w5 ⟨rfl, b5⟩
      clear x6c0 x6c1 hc0 hc1
      have Y4 := Lib.hid (box_below X4.out b5)
      have Y6 := Lib.hid (box_below X6.out b5)
      have HB5 := Lib.hid (HB.out.trans (b5.mono HB.out.size))
      have hsz5 := b5.size
      clear X4 X6 HB b5
      cases hM : addO p q ea eb with
      | none =>
        have HR := Lib.hid (fr_none (smO_stop (k := k) (HM2.out.trans hM) (by omega)))
        clear hM
        simp only [fN, fD, fB]
        have b6 := below_new w5 (.cells #[.int .i64 0, .int .i64 0] 27)
        have x4 := box_below Y4.out b6
        have HB6 := Lib.hid (HB5.out.trans (b6.mono HB5.out.size))
        have x4c0 := box_cell x4 0 _ rfl
        have x4c1 := box_cell x4 1 _ rfl
        have x4f0 := box_free x4 0
        have x4f1 := box_free x4 1
        have y0 := store_two x4 (.int .i64 0) (.int .i64 0)
        have e0 := box_cell y0 0 _ rfl
        have e1 := box_cell y0 1 _ rfl
        clear b6
        go_wp2
        refine bodyPost_ret (v := .tuple #[.agg #[.int .i64 0, .int .i64 0], .bool false]) (by simp [results, Try.results18, go_sem, e0, e1]) rfl ⟨by rw [HR.out.1, HR.out.2.1, HR.out.2.2], below_two HB6.out (by omega)⟩
      | some r =>
        obtain ⟨u, v⟩ := r
        have HM3 := Lib.hid (HM2.out.trans hM)
        clear hM HM2
        simp only [fN, fD, fB]
        have b6 := below_new w5 (.cells #[.int .i64 u, .int .i64 v] 27)
        have x4 := box_below Y4.out b6
        have x6 := box_below Y6.out b6
        have x9 := box_new w5 #[.int .i64 u, .int .i64 v] 27
        have x6c0 := box_cell x6 0 _ rfl
        have x6c1 := box_cell x6 1 _ rfl
        have x6f0 := box_free x6 0
        have x6f1 := box_free x6 1
        have x9c0 := box_cell x9 0 _ rfl
        have x9c1 := box_cell x9 1 _ rfl
        have Y4' := Lib.hid (set_other (g := w.heap.size + 1) (u := .int .i64 u) (v := .int .i64 v) x4 (by omega))
        have Y6' := Lib.hid (store_two x6 (.int .i64 u) (.int .i64 v))
        have HB6 := Lib.hid (below_two (g := w.heap.size + 1) (u := .int .i64 u) (v := .int .i64 v) (HB5.out.trans (b6.mono HB5.out.size)) (by omega))
        clear b6 x4
        go_wp2
        go_roundw
        case rel => exact ⟨j + 1, u, v, by omega, by go_num, HM3, Y4', Y6', HB6⟩
        case measure => simp [intOf]; omega
    · obtain rfl : j = k := by omega
      have HR := Lib.hid (fr_some HM.out)
      have y0 := store_two X4.out (.int .i64 p) (.int .i64 q)
      have e0 := box_cell y0 0 _ rfl
      have e1 := box_cell y0 1 _ rfl
      have l6 := lt_of_block X6.out
      have x6c0 := box_cell X6.out 0 _ rfl
      have x6c1 := box_cell X6.out 1 _ rfl
      have x4f0 := box_free X4.out 0
      have x4f1 := box_free X4.out 1
      have x4c0 := box_cell X4.out 0 _ rfl
      have x4c1 := box_cell X4.out 1 _ rfl
      go_wp2
      refine bodyPost_ret (v := .tuple #[.agg #[.int .i64 p, .int .i64 q], .bool true]) (by simp [results, Try.results18, go_sem, e0, e1]) rfl ⟨by rw [HR.out.1, HR.out.2.1, HR.out.2.2], below_two HB.out (by omega)⟩
end Go.Proofs.Ytgfihfmlofgopaa
