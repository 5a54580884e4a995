/- Several small texts in one: DrL, DrM. -/
import Derived.Test.YtahbcnclhohnaaaGreatZt
import Derived.Test.YtahbcnclhohnaaaGreatZl
namespace Go.Proofs.YtahbcnclhohnaaaGreat

section
open Go.RowKit

def DIp (w : World) (e : Ending) (w' : World) : Prop := ∃ (A1 : Option Addr) (n1 c1 : Nat) (vs : List (ByteArray × Int)) (B : Option Addr) (m d : Nat) (U : Option Addr) (l k : Nat) (us : List Int) (P : Option Addr) (R : List (List Int)) (cp : Nat), e = .returned (.tuple #[.slice A1 n1 c1, .slice B m d, .slice U l k, .slice P R.length cp]) ∧ n1 ≤ 8 ∧ DVr w' w.heap.size A1 n1 c1 vs ∧ m ≤ 41 ∧ DRs w' w.heap.size B m d ∧ l ≤ 9 ∧ OwnI w' w.heap.size w'.heap.size U l k us ∧ OwnII w' w.heap.size w'.heap.size P R.length cp (fun t => R[t]?.getD []) ∧ Below w.heap.size w w'
set_option maxRecDepth 100000 in
set_option maxHeartbeats 4000000 in
theorem drawIsSwapPlan_any (A : Option Addr) (n c : Nat) (w : World) (hb : Byt w A n) (hn : n ≤ 9223372036854775807) :
    Calls Tryz.prog 15 #[.slice A n c] w (DIp w) := by
  have xc := box_new w #[.slice A n c, .int .i64 0, .int .u64 0] 52
  have b0 := below_new w (.cells #[.slice A n c, .int .i64 0, .int .u64 0] 52)
  have S := Lib.hid (show (w.alloc (.cells #[.slice A n c, .int .i64 0, .int .u64 0] 52)).heap.size = w.heap.size + 1 by simp)
  have hc0 : Cur _ w.heap.size 0 := cur_new2 xc (by omega) hb (fun b hb => b0.block b hb) hn
  have hb0 := hb.below b0
  clear xc
  go_enter Tryz.func15, Tryz.ntmps15
  go_wp2_with fail
  generalize w.alloc (.cells #[.slice A n c, .int .i64 0, .int .u64 0] 52) = w0 at *
  refine (drawSwapPlan_any _ _ _ _ hb0 hn).mono ?_
  rintro e w1 ⟨A1, n1, c1, vs, B, m, d, U, l, k, us, x, y, rfl, hn1, od, hm, or_, hl, ou, b1⟩
  have s0 : w.heap.size + 1 ≤ w0.heap.size := by have := S.out; omega
  have hc1 := hc0.below b1
  have B1 := b0.trans (b1.mono (by omega))
  have z1 := b1.size
  clear hb0 hc0 b0 b1
  obtain ⟨rs, hrs⟩ := or_.recs (by omega)
  go_wp2_with fail
  refine (swapPlan_any _ _ _ n1 _ m _ l _ x y vs rs us w1 (od.sch (by omega)) hrs (IntR.mk ou.ints (by omega))).mono ?_
  rintro e w2 ⟨P, cp, rfl, op, b2⟩
  clear hrs
  generalize planV vs rs us x y = X at *
  replace od := (od.below b2).mono (show w.heap.size + 1 ≤ _ by omega)
  replace or_ := (or_.below b2).mono (show w.heap.size + 1 ≤ _ by omega)
  replace ou := (ou.below b2).fit (show w.heap.size + 1 ≤ _ by omega)
  replace op := op.fit (show w.heap.size + 1 ≤ _ by omega)
  have hc2 := hc1.below b2
  have B2 := B1.trans (b2.mono B1.size)
  have z2 := b2.size
  clear hc1 B1 b2
  cases X with
  | none =>
    clear op
    go_wp2_with fail
    refine (swaps_any _ _ m _ hc2 (by omega) (by omega)).mono ?_
    rintro e w4 ⟨Q, cq, R, rfl, _, oq, _, hg4⟩
    have HD := Lib.hid ((od.chg hg4 (by omega)).mono (show w.heap.size ≤ _ by omega))
    have HR := Lib.hid ((or_.chg hg4 (by omega)).mono (show w.heap.size ≤ _ by omega))
    have HU := Lib.hid ((ou.chg hg4 (by omega)).fit (show w.heap.size ≤ _ by omega))
    have HP := Lib.hid (oq.fit (show w.heap.size ≤ _ by omega))
    have HB := Lib.hid (Chg.to_below (Nat.le_refl _) ((Chg.of_below (lo := w.heap.size) (hi := w.heap.size + 1) B2).trans hg4))
    clear od or_ ou oq hg4 hc2
    go_wp2
    exact bodyPost_ret (v := .tuple #[.slice A1 n1 c1, .slice B m d, .slice U l k, .slice Q R.length cq]) (by simp [results, Tryz.results15, go_sem]) rfl ⟨A1, n1, c1, vs, B, m, d, U, l, k, us, Q, R, cq, rfl, hn1, HD.out, hm, HR.out, hl, HU.out, HP.out, HB.out⟩
  | some R0 =>
    replace op : OwnII w2 (w.heap.size + 1) w2.heap.size P R0.length cp (fun t => R0[t]?.getD []) := op
    go_wp2_with fail
    refine (one_any _ _ 3 _ hc2 (by omega) (by omega)).mono ?_
    rintro e w3 ⟨b, rfl, hc3, hg3⟩
    replace od := od.chg hg3 (by omega)
    replace or_ := or_.chg hg3 (by omega)
    replace ou := (ou.chg hg3 (by omega)).fit (show w.heap.size + 1 ≤ _ by omega)
    replace op := op.keepG hg3 (by omega)
    have z3 := hg3.size
    clear hc2
    cases b
    · have HD := Lib.hid (od.mono (show w.heap.size ≤ _ by omega))
      have HR := Lib.hid (or_.mono (show w.heap.size ≤ _ by omega))
      have HU := Lib.hid (ou.fit (show w.heap.size ≤ _ by omega))
      have HP := Lib.hid (op.fit (show w.heap.size ≤ _ by omega))
      have HB := Lib.hid (Chg.to_below (Nat.le_refl _) ((Chg.of_below (lo := w.heap.size) (hi := w.heap.size + 1) B2).trans hg3))
      clear od or_ ou op hg3 hc3
      go_wp2
      exact bodyPost_ret (v := .tuple #[.slice A1 n1 c1, .slice B m d, .slice U l k, .slice P R0.length cp]) (by simp [results, Tryz.results15, go_sem]) rfl ⟨A1, n1, c1, vs, B, m, d, U, l, k, us, P, R0, cp, rfl, hn1, HD.out, hm, HR.out, hl, HU.out, HP.out, HB.out⟩
    · clear op
      go_wp2_with fail
      refine (swaps_any _ _ m _ hc3 (by omega) (by omega)).mono ?_
      rintro e w4 ⟨Q, cq, R, rfl, _, oq, _, hg4⟩
      have HD := Lib.hid ((od.chg hg4 (by omega)).mono (show w.heap.size ≤ _ by omega))
      have HR := Lib.hid ((or_.chg hg4 (by omega)).mono (show w.heap.size ≤ _ by omega))
      have HU := Lib.hid ((ou.chg hg4 (by omega)).fit (show w.heap.size ≤ _ by omega))
      have HP := Lib.hid (oq.fit (show w.heap.size ≤ _ by omega))
      have HB := Lib.hid (Chg.to_below (Nat.le_refl _) ((Chg.of_below (lo := w.heap.size) (hi := w.heap.size + 1) B2).trans (hg3.trans hg4)))
      clear od or_ ou oq hg4 hc3
      go_wp2
      exact bodyPost_ret (v := .tuple #[.slice A1 n1 c1, .slice B m d, .slice U l k, .slice Q R.length cq]) (by simp [results, Tryz.results15, go_sem]) rfl ⟨A1, n1, c1, vs, B, m, d, U, l, k, us, Q, R, cq, rfl, hn1, HD.out, hm, HR.out, hl, HU.out, HP.out, HB.out⟩
end

section
open Go.RowKit
end
end Go.Proofs.YtahbcnclhohnaaaGreat
