/- Sums of parts, of the program. -/
import Derived.Test.YtgeilnkglbcmeaaGreatRiskP
namespace Go.Proofs.YtgeilnkglbcmeaaGreat
open Go.RowKit

def riskB (S : Nat → List Int) (i : Nat) : Bool := decide (0 < (S i).length)
def hitB (S : Nat → List Int) (i : Nat) : Bool := hasB (S i) (i : Int)
def lenN (S : Nat → List Int) (i : Nat) : Nat := (S i).length

theorem set_other {w : World} {g a : Nat} {o : Obj} {u v : Value} (h : w.heap[a]? = some o) (hne : a ≠ g) : ((w.setCell ⟨g, 0, none⟩ u).setCell ⟨g, 1, none⟩ v).heap[a]? = some o := by
  rw [Below.heap_setCell _ ⟨g, 1, none⟩ v a hne, Below.heap_setCell _ ⟨g, 0, none⟩ u a hne]; exact h

theorem risk1_any (i : Int) (A : Option Addr) (n c : Nat) (w : World) (hn : n ≤ 1000000) :
    Calls Tryz.prog 24 #[.int .i64 i, .slice A n c] w fun e w' => e = .returned (.bool (decide (0 < n))) ∧ w = w' := by
  by_cases h : 0 < n
  · have hd : decide (0 < n) = true := by simp [h]
    have hd2 : decide ((0 : Int) < (n : Int)) = true := by simp; omega
    rw [hd]
    go_enter Tryz.func24, Tryz.ntmps24
    go_wp2
    go_ret
    exact ⟨rfl, rfl⟩
  · obtain rfl : n = 0 := by omega
    go_enter Tryz.func24, Tryz.ntmps24
    go_wp2
    go_ret
    exact ⟨rfl, rfl⟩

theorem hits1_any (i : Int) (A : Option Addr) (n c : Nat) (xs : List Int) (w : World) (hx : IntR w A n xs) :
    Calls Tryz.prog 31 #[.int .i64 i, .slice A n c] w fun e w' => e = .returned (.bool (hasB xs i)) ∧ w = w' := by
  go_enter Tryz.func31, Tryz.ntmps31
  go_wp2_with fail
  refine (contains_any _ n _ _ xs _ hx).mono ?_
  rintro e w1 ⟨rfl, rfl⟩
  go_wp2
  go_ret
  exact ⟨rfl, rfl⟩

set_option maxRecDepth 100000 in
set_option maxHeartbeats 4000000 in
theorem sumOf_risk (A : Option Addr) (n c : Nat) (S : Nat → List Int) (w : World) (hs : IntsS w A n S) (hn : n ≤ 40) (hl : ∀ i, (S i).length ≤ 40) :
    Calls Tryz.prog 22 #[.slice A n c, .func (.func 24) #[] #[]] w (RetFr w (sumO (riskB S) (lenN S) n)) := by
  have HS := Lib.hid hs
  have HL := Lib.hid hl
  have HP : Hid (∀ i, riskB S i = true → 1 ≤ (S i).length) := Lib.hid (fun i h => by have := of_decide_eq_true h; omega)
  clear hs hl
  obtain ⟨b0, x0, x1⟩ := box_two w #[.int .i64 0, .int .i64 0] #[.int .i64 0, .int .i64 1] 30 30
  go_enter Tryz.func22, Tryz.ntmps22
  go_wp2_with fail
  generalize (w.alloc (.cells #[.int .i64 0, .int .i64 0] 30)).alloc (.cells #[.int .i64 0, .int .i64 1] 30) = w1 at *
  go_loopw [14] (fun i wr => ∃ (j : Nat) (p q : Int), j ≤ n ∧ i = .int .i64 j ∧ Hid (sumO (riskB S) (lenN S) j = some (p, q)) ∧ Hid (wr.heap[w.heap.size]? = some (.cells #[.int .i64 0, .int .i64 0] 30 (0, 0))) ∧ Hid (wr.heap[w.heap.size + 1]? = some (.cells #[.int .i64 p, .int .i64 q] 30 (0, 0))) ∧ Hid (Below w.heap.size w wr)) (fun i _ => n - (intOf i).toNat)
  case atStart => exact ⟨0, 0, 1, Nat.zero_le _, rfl, Lib.hid rfl, Lib.hid x0, Lib.hid x1, Lib.hid b0⟩
  case round =>
    clear x0 x1 b0
    obtain ⟨j, p, q, hj, rfl, HM, X0, X1, HB⟩ := hrel
    obtain ⟨w3, rfl⟩ : ∃ w3 : World, w3 = wr := ⟨_, rfl⟩
    by_cases hlt : j < n
    · obtain ⟨ad, rfl, V, cv, hc, hv⟩ := (HS.out.below HB.out).at_ hlt
      have hle := HL.out j
      have HV := Lib.hid hv
      have hx1 := lt_of_block X1.out
      clear hv
      go_wp2_with fail
      refine (risk1_any _ _ _ _ _ (by omega)).mono ?_
      rintro e w4 ⟨rfl, rfl⟩
      rw [show decide (0 < (S j).length) = riskB S j from rfl]
      clear hc
      cases hp : riskB S j
      · have HM2 := Lib.hid (sumO_no HM.out hp)
        clear hp
        go_wp2
        go_roundw
        case rel => exact ⟨j + 1, p, q, by omega, by go_num, HM2, X0, X1, HB⟩
        case measure => simp [intOf]; omega
      · have hps := HP.out j hp
        have HM2 := Lib.hid (sumO_yes HM.out hp)
        have HF := Lib.hid (sumO_frac HM.out)
        have HG := Lib.hid (one_frac hps (show (S j).length ≤ 1000000 by omega))
        rw [show ((lenN S j : Nat) : Int) = (((S j).length : Nat) : Int) from rfl] at HM2
        have x1c0 := box_cell X1.out 0 _ rfl
        have x1c1 := box_cell X1.out 1 _ rfl
        clear hp
        go_wp2_with fail
        refine (addFrac_any _ _ _ _ _ HF.out HG.out).mono ?_
        rintro e w5 ⟨rfl, b5⟩
        clear x1c0 x1c1
        have Y0 := Lib.hid (box_below X0.out b5)
        have Y1 := Lib.hid (box_below X1.out b5)
        have HB5 := Lib.hid (HB.out.trans (b5.mono HB.out.size))
        have hsz5 := b5.size
        clear X0 X1 HB b5
        cases hM : addO p q 1 ((S j).length : Nat) with
        | none =>
          have HR := Lib.hid (fr_none (sumO_stop (m := n) (HM2.out.trans hM) (by omega)))
          clear hM
          simp only [fN, fD, fB]
          have b6 := below_new w5 (.cells #[.int .i64 0, .int .i64 0] 30)
          have x0 := box_below Y0.out b6
          have HB6 := Lib.hid (HB5.out.trans (b6.mono HB5.out.size))
          have x0c0 := box_cell x0 0 _ rfl
          have x0c1 := box_cell x0 1 _ rfl
          have x0f0 := box_free x0 0
          have x0f1 := box_free x0 1
          have y0 := store_two x0 (.int .i64 0) (.int .i64 0)
          have e0 := box_cell y0 0 _ rfl
          have e1 := box_cell y0 1 _ rfl
          clear b6
          go_wp2
          refine bodyPost_ret (v := .tuple #[.agg #[.int .i64 0, .int .i64 0], .bool false]) (by simp [results, Tryz.results22, go_sem, e0, e1]) rfl ⟨by rw [HR.out.1, HR.out.2.1, HR.out.2.2], below_two HB6.out (Nat.le_refl _)⟩
        | some r =>
          obtain ⟨a, b⟩ := r
          have HM3 := Lib.hid (HM2.out.trans hM)
          clear hM HM2
          simp only [fN, fD, fB]
          have b6 := below_new w5 (.cells #[.int .i64 a, .int .i64 b] 30)
          have x0 := box_below Y0.out b6
          have x1 := box_below Y1.out b6
          have x9 := box_new w5 #[.int .i64 a, .int .i64 b] 30
          have x1c0 := box_cell x1 0 _ rfl
          have x1c1 := box_cell x1 1 _ rfl
          have x1f0 := box_free x1 0
          have x1f1 := box_free x1 1
          have x9c0 := box_cell x9 0 _ rfl
          have x9c1 := box_cell x9 1 _ rfl
          have Y0' := Lib.hid (set_other (g := w.heap.size + 1) (u := .int .i64 a) (v := .int .i64 b) x0 (by omega))
          have Y1' := Lib.hid (store_two x1 (.int .i64 a) (.int .i64 b))
          have HB6 := Lib.hid (below_two (g := w.heap.size + 1) (u := .int .i64 a) (v := .int .i64 b) (HB5.out.trans (b6.mono HB5.out.size)) (by omega))
          clear b6 x0
          go_wp2
          go_roundw
          case rel => exact ⟨j + 1, a, b, by omega, by go_num, HM3, Y0', Y1', HB6⟩
          case measure => simp [intOf]; omega
    · obtain rfl : j = n := by omega
      have HR := Lib.hid (fr_some HM.out)
      have y0 := store_two X0.out (.int .i64 p) (.int .i64 q)
      have e0 := box_cell y0 0 _ rfl
      have e1 := box_cell y0 1 _ rfl
      have x1c0 := box_cell X1.out 0 _ rfl
      have x1c1 := box_cell X1.out 1 _ rfl
      have x0f0 := box_free X0.out 0
      have x0f1 := box_free X0.out 1
      have x0c0 := box_cell X0.out 0 _ rfl
      have x0c1 := box_cell X0.out 1 _ rfl
      go_wp2
      refine bodyPost_ret (v := .tuple #[.agg #[.int .i64 p, .int .i64 q], .bool true]) (by simp [results, Tryz.results22, go_sem, e0, e1]) rfl ⟨by rw [HR.out.1, HR.out.2.1, HR.out.2.2], below_two HB.out (Nat.le_refl _)⟩

set_option maxRecDepth 100000 in
set_option maxHeartbeats 4000000 in
theorem sumOf_hits (A : Option Addr) (n c : Nat) (S : Nat → List Int) (w : World) (hs : IntsS w A n S) (hn : n ≤ 40) (hl : ∀ i, (S i).length ≤ 40) :
    Calls Tryz.prog 22 #[.slice A n c, .func (.func 31) #[] #[]] w (RetFr w (sumO (hitB S) (lenN S) n)) := by
  have HS := Lib.hid hs
  have HL := Lib.hid hl
  have HP : Hid (∀ i, hitB S i = true → 1 ≤ (S i).length) := Lib.hid (fun i h => has_pos h)
  clear hs hl
  obtain ⟨b0, x0, x1⟩ := box_two w #[.int .i64 0, .int .i64 0] #[.int .i64 0, .int .i64 1] 30 30
  go_enter Tryz.func22, Tryz.ntmps22
  go_wp2_with fail
  generalize (w.alloc (.cells #[.int .i64 0, .int .i64 0] 30)).alloc (.cells #[.int .i64 0, .int .i64 1] 30) = w1 at *
  go_loopw [14] (fun i wr => ∃ (j : Nat) (p q : Int), j ≤ n ∧ i = .int .i64 j ∧ Hid (sumO (hitB S) (lenN S) j = some (p, q)) ∧ Hid (wr.heap[w.heap.size]? = some (.cells #[.int .i64 0, .int .i64 0] 30 (0, 0))) ∧ Hid (wr.heap[w.heap.size + 1]? = some (.cells #[.int .i64 p, .int .i64 q] 30 (0, 0))) ∧ Hid (Below w.heap.size w wr)) (fun i _ => n - (intOf i).toNat)
  case atStart => exact ⟨0, 0, 1, Nat.zero_le _, rfl, Lib.hid rfl, Lib.hid x0, Lib.hid x1, Lib.hid b0⟩
  case round =>
    clear x0 x1 b0
    obtain ⟨j, p, q, hj, rfl, HM, X0, X1, HB⟩ := hrel
    obtain ⟨w3, rfl⟩ : ∃ w3 : World, w3 = wr := ⟨_, rfl⟩
    by_cases hlt : j < n
    · obtain ⟨ad, rfl, V, cv, hc, hv⟩ := (HS.out.below HB.out).at_ hlt
      have hle := HL.out j
      have HV := Lib.hid hv
      have hx1 := lt_of_block X1.out
      clear hv
      go_wp2_with fail
      refine (hits1_any _ _ _ _ (S j) _ ⟨HV.out, by omega⟩).mono ?_
      rintro e w4 ⟨rfl, rfl⟩
      rw [show hasB (S j) (j : Int) = hitB S j from rfl]
      clear hc
      cases hp : hitB S j
      · have HM2 := Lib.hid (sumO_no HM.out hp)
        clear hp
        go_wp2
        go_roundw
        case rel => exact ⟨j + 1, p, q, by omega, by go_num, HM2, X0, X1, HB⟩
        case measure => simp [intOf]; omega
      · have hps := HP.out j hp
        have HM2 := Lib.hid (sumO_yes HM.out hp)
        have HF := Lib.hid (sumO_frac HM.out)
        have HG := Lib.hid (one_frac hps (show (S j).length ≤ 1000000 by omega))
        rw [show ((lenN S j : Nat) : Int) = (((S j).length : Nat) : Int) from rfl] at HM2
        have x1c0 := box_cell X1.out 0 _ rfl
        have x1c1 := box_cell X1.out 1 _ rfl
        clear hp
        go_wp2_with fail
        refine (addFrac_any _ _ _ _ _ HF.out HG.out).mono ?_
        rintro e w5 ⟨rfl, b5⟩
        clear x1c0 x1c1
        have Y0 := Lib.hid (box_below X0.out b5)
        have Y1 := Lib.hid (box_below X1.out b5)
        have HB5 := Lib.hid (HB.out.trans (b5.mono HB.out.size))
        have hsz5 := b5.size
        clear X0 X1 HB b5
        cases hM : addO p q 1 ((S j).length : Nat) with
        | none =>
          have HR := Lib.hid (fr_none (sumO_stop (m := n) (HM2.out.trans hM) (by omega)))
          clear hM
          simp only [fN, fD, fB]
          have b6 := below_new w5 (.cells #[.int .i64 0, .int .i64 0] 30)
          have x0 := box_below Y0.out b6
          have HB6 := Lib.hid (HB5.out.trans (b6.mono HB5.out.size))
          have x0c0 := box_cell x0 0 _ rfl
          have x0c1 := box_cell x0 1 _ rfl
          have x0f0 := box_free x0 0
          have x0f1 := box_free x0 1
          have y0 := store_two x0 (.int .i64 0) (.int .i64 0)
          have e0 := box_cell y0 0 _ rfl
          have e1 := box_cell y0 1 _ rfl
          clear b6
          go_wp2
          refine bodyPost_ret (v := .tuple #[.agg #[.int .i64 0, .int .i64 0], .bool false]) (by simp [results, Tryz.results22, go_sem, e0, e1]) rfl ⟨by rw [HR.out.1, HR.out.2.1, HR.out.2.2], below_two HB6.out (Nat.le_refl _)⟩
        | some r =>
          obtain ⟨a, b⟩ := r
          have HM3 := Lib.hid (HM2.out.trans hM)
          clear hM HM2
          simp only [fN, fD, fB]
          have b6 := below_new w5 (.cells #[.int .i64 a, .int .i64 b] 30)
          have x0 := box_below Y0.out b6
          have x1 := box_below Y1.out b6
          have x9 := box_new w5 #[.int .i64 a, .int .i64 b] 30
          have x1c0 := box_cell x1 0 _ rfl
          have x1c1 := box_cell x1 1 _ rfl
          have x1f0 := box_free x1 0
          have x1f1 := box_free x1 1
          have x9c0 := box_cell x9 0 _ rfl
          have x9c1 := box_cell x9 1 _ rfl
          have Y0' := Lib.hid (set_other (g := w.heap.size + 1) (u := .int .i64 a) (v := .int .i64 b) x0 (by omega))
          have Y1' := Lib.hid (store_two x1 (.int .i64 a) (.int .i64 b))
          have HB6 := Lib.hid (below_two (g := w.heap.size + 1) (u := .int .i64 a) (v := .int .i64 b) (HB5.out.trans (b6.mono HB5.out.size)) (by omega))
          clear b6 x0
          go_wp2
          go_roundw
          case rel => exact ⟨j + 1, a, b, by omega, by go_num, HM3, Y0', Y1', HB6⟩
          case measure => simp [intOf]; omega
    · obtain rfl : j = n := by omega
      have HR := Lib.hid (fr_some HM.out)
      have y0 := store_two X0.out (.int .i64 p) (.int .i64 q)
      have e0 := box_cell y0 0 _ rfl
      have e1 := box_cell y0 1 _ rfl
      have x1c0 := box_cell X1.out 0 _ rfl
      have x1c1 := box_cell X1.out 1 _ rfl
      have x0f0 := box_free X0.out 0
      have x0f1 := box_free X0.out 1
      have x0c0 := box_cell X0.out 0 _ rfl
      have x0c1 := box_cell X0.out 1 _ rfl
      go_wp2
      refine bodyPost_ret (v := .tuple #[.agg #[.int .i64 p, .int .i64 q], .bool true]) (by simp [results, Tryz.results22, go_sem, e0, e1]) rfl ⟨by rw [HR.out.1, HR.out.2.1, HR.out.2.2], below_two HB.out (Nat.le_refl _)⟩
end Go.Proofs.YtgeilnkglbcmeaaGreat
