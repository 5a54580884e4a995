/- Several small texts in one: CellsP, Cells, CellsL. -/
import Derived.Test.YtgeilnkglbcmeaaClass
import Derived.RegionTactic
import Derived.ChangeAlike
import Derived.BigRegion
import Derived.Deep.OwnRows
import Derived.Deep.CutRange
namespace Go.Proofs.Ytgeilnkglbcmeaa

section
open Go.RowKit

/-- The cell of the j-th record. -/
def cellAt (vs : List (ByteArray × Int)) (us : List Int) (rs : List RecD) (j : Nat) : Nat := (keyV vs (rV rs j) us).toNat
def cellsC (vs : List (ByteArray × Int)) (us : List Int) (rs : List RecD) (N : Nat) : Nat → List Int
  | 0 => List.replicate N 0
  | j + 1 => (cellsC vs us rs N j).set (cellAt vs us rs j) ((cellsC vs us rs N j)[cellAt vs us rs j]?.getD 0 + 1)
def cellsK (sd : Int) (vs : List (ByteArray × Int)) (us : List Int) (rs : List RecD) (N : Nat) : Nat → List Int
  | 0 => List.replicate N 0
  | j + 1 => (cellsK sd vs us rs N j).set (cellAt vs us rs j) (((cellsK sd vs us rs N j)[cellAt vs us rs j]?.getD 0 + rkey sd (rA rs j) (rH rs j) (rV rs j)) % 65536)
theorem cellsC_len (vs : List (ByteArray × Int)) (us : List Int) (rs : List RecD) (N j : Nat) : (cellsC vs us rs N j).length = N := by
  induction j with
  | zero => simp [cellsC]
  | succ j ih => simp [cellsC, ih]
theorem cellsK_len (sd : Int) (vs : List (ByteArray × Int)) (us : List Int) (rs : List RecD) (N j : Nat) : (cellsK sd vs us rs N j).length = N := by
  induction j with
  | zero => simp [cellsK]
  | succ j ih => simp [cellsK, ih]
theorem getD_set {xs : List Int} {i t : Nat} {v : Int} : (xs.set i v)[t]?.getD 0 = if i = t ∧ t < xs.length then v else xs[t]?.getD 0 := by
  rw [List.getElem?_set]
  by_cases e : i = t
  · subst e
    by_cases h : i < xs.length
    · simp [h]
    · simp [h]
  · simp [e]
theorem getD_rep (N t : Nat) : (List.replicate N (0 : Int))[t]?.getD 0 = 0 := by
  rw [List.getElem?_replicate]
  split <;> rfl
theorem cellsC_bd (vs : List (ByteArray × Int)) (us : List Int) (rs : List RecD) (N j t : Nat) : 0 ≤ (cellsC vs us rs N j)[t]?.getD 0 ∧ (cellsC vs us rs N j)[t]?.getD 0 ≤ j := by
  induction j generalizing t with
  | zero => simp only [cellsC, getD_rep]; omega
  | succ j ih =>
    have h1 := ih t
    have h2 := ih (cellAt vs us rs j)
    simp only [cellsC, getD_set]
    split <;> omega
theorem cellsK_bd (sd : Int) (vs : List (ByteArray × Int)) (us : List Int) (rs : List RecD) (N j t : Nat) : 0 ≤ (cellsK sd vs us rs N j)[t]?.getD 0 ∧ (cellsK sd vs us rs N j)[t]?.getD 0 < 65536 := by
  induction j generalizing t with
  | zero => simp only [cellsK, getD_rep]; omega
  | succ j ih =>
    have h1 := ih t
    simp only [cellsK, getD_set]
    split
    · exact ⟨Int.emod_nonneg _ (by omega), Int.emod_lt_of_pos _ (by omega)⟩
    · exact h1
/-- The count of cells, as a Nat. -/
def cellsN (vs : List (ByteArray × Int)) (us : List Int) : Nat := (prodN vs us us.length).toNat
theorem cellsN_eq {vs : List (ByteArray × Int)} {us : List Int} {n : Nat} (h : PartOk vs us n) : prodN vs us us.length = (cellsN vs us : Int) ∧ cellsN vs us ≤ 262144 := by
  have := h.prod
  unfold cellsN
  omega
theorem cellAt_lt {vs : List (ByteArray × Int)} {us : List Int} {rs : List RecD} {n j : Nat} (h : KeyOk vs (rV rs j) us n) : keyV vs (rV rs j) us = (cellAt vs us rs j : Int) ∧ cellAt vs us rs j < cellsN vs us := by
  have h1 := h.keyV_bd
  have h2 := h.lt_prod us.length (Nat.le_refl _)
  have h3 := cellsN_eq h.part
  unfold cellAt
  unfold keyV at *
  omega
/-- Two rows of ints of the call's own, apart. -/
def TwoI (w w' : World) (A1 : Option Addr) (n1 c1 : Nat) (l1 : List Int) (A2 : Option Addr) (n2 c2 : Nat) (l2 : List Int) : Prop :=
  ∃ p1 q1 p2 q2, w.heap.size ≤ p1 ∧ q1 ≤ w'.heap.size ∧ w.heap.size ≤ p2 ∧ q2 ≤ w'.heap.size ∧ (q1 ≤ p2 ∨ q2 ≤ p1) ∧ OwnI w' p1 q1 A1 n1 c1 l1 ∧ OwnI w' p2 q2 A2 n2 c2 l2
/-- Two rows at two known blocks. -/
structure TwoAt (w0 w : World) (N g1 g2 : Nat) (l1 l2 : List Int) : Prop where
  ne : g1 ≠ g2
  b1 : w0.heap.size ≤ g1
  b2 : w0.heap.size ≤ g2
  o1 : Own w g1 (some ⟨g1, 0, none⟩) N N l1
  o2 : Own w g2 (some ⟨g2, 0, none⟩) N N l2
theorem TwoAt.below {w0 w w' : World} {N g1 g2 : Nat} {l1 l2 : List Int} (h : TwoAt w0 w N g1 g2 l1 l2) (hb : Below w.heap.size w w') : TwoAt w0 w' N g1 g2 l1 l2 := ⟨h.ne, h.b1, h.b2, h.o1.below hb, h.o2.below hb⟩
theorem own_far_set {w : World} {B g n c i : Nat} {g' : Nat} {v : Value} {xs : List Int} (h : Own w B (some ⟨g, 0, none⟩) n c xs) (hne : g ≠ g') : Own (w.setCell ⟨g', i, none⟩ v) B (some ⟨g, 0, none⟩) n c xs :=
  h.keep fun b hb _ => by
    simp only [Option.some.injEq, Addr.mk.injEq, and_true] at hb
    subst hb
    exact Below.heap_setCell w ⟨g', i, none⟩ v g hne
theorem TwoAt.set1 {w0 w : World} {N g1 g2 i : Nat} {l1 l2 : List Int} (h : TwoAt w0 w N g1 g2 l1 l2) (x : Int) : TwoAt w0 (w.setCell ⟨g1, i, none⟩ (.int .i64 x)) N g1 g2 (l1.set i x) l2 :=
  ⟨h.ne, h.b1, h.b2, h.o1.set, own_far_set h.o2 h.ne.symm⟩
theorem TwoAt.set2 {w0 w : World} {N g1 g2 i : Nat} {l1 l2 : List Int} (h : TwoAt w0 w N g1 g2 l1 l2) (x : Int) : TwoAt w0 (w.setCell ⟨g2, i, none⟩ (.int .i64 x)) N g1 g2 l1 (l2.set i x) :=
  ⟨h.ne, h.b1, h.b2, own_far_set h.o1 h.ne, h.o2.set⟩
theorem TwoAt.two {w0 w : World} {N g1 g2 : Nat} {l1 l2 : List Int} (h : TwoAt w0 w N g1 g2 l1 l2) (hN : N ≤ 1099511627776) : TwoI w0 w (some ⟨g1, 0, none⟩) N N l1 (some ⟨g2, 0, none⟩) N N l2 := by
  have := h.ne
  have h1 := h.o1.size_lt
  have h2 := h.o2.size_lt
  refine ⟨g1, g1 + 1, g2, g2 + 1, h.b1, by omega, h.b2, by omega, by omega, ⟨h.o1, fun k hk => ?_, hN⟩, ⟨h.o2, fun k hk => ?_, hN⟩⟩
  · simp only [rowOf, Option.some.injEq] at hk; omega
  · simp only [rowOf, Option.some.injEq] at hk; omega
theorem own_made (w : World) (n : Nat) (hn : n ≤ 1099511627776) : Own (w.alloc (.cells (madeCells #[.int .i64 0] n) 3)) w.heap.size (some ⟨w.heap.size, 0, none⟩) n n (List.replicate n 0) := by
  have h := own_new w (List.replicate n 0) n (by simp) hn
  have e : (madeCells #[Value.int .i64 0] n) = ((List.replicate n (0 : Int)).map (Value.int .i64)).toArray := by
    have := map_replicate0 n
    rw [← this]
    simp [Value.cells]
  rw [e]
  exact h
end

section
open Go.RowKit

theorem made_two (w : World) (N : Nat) (hN : N ≤ 1099511627776) : Own ((w.alloc (.cells (madeCells #[.int .i64 0] N) 3)).alloc (.cells (madeCells #[.int .i64 0] N) 3)) w.heap.size (some ⟨w.heap.size, 0, none⟩) N N (List.replicate N 0) ∧
    Own ((w.alloc (.cells (madeCells #[.int .i64 0] N) 3)).alloc (.cells (madeCells #[.int .i64 0] N) 3)) (w.heap.size + 1) (some ⟨w.heap.size + 1, 0, none⟩) N N (List.replicate N 0) ∧
    Below w.heap.size w ((w.alloc (.cells (madeCells #[.int .i64 0] N) 3)).alloc (.cells (madeCells #[.int .i64 0] N) 3)) :=
  ⟨(own_made w N hN).below (below_new _ _), by simpa using own_made (w.alloc (.cells (madeCells #[.int .i64 0] N) 3)) N hN, (below_new w _).alloc (by simp) _⟩

set_option maxRecDepth 100000 in
set_option maxHeartbeats 4000000 in
theorem keyedCells_any (sd : Int) (A B U : Option Addr) (n c m d l k' : Nat) (vs : List (ByteArray × Int)) (rs : List RecD) (us : List Int) (w : World) (hx : SchR w A n c vs) (hy : DatR w B m rs) (hu : IntR w U l us) (hk : AllOk vs rs us n) :
    Calls Try.prog 64 #[.int .i64 sd, .slice A n c, .slice B m d, .slice U l k'] w fun e w' => ∃ A1 c1 A2 c2, e = .returned (.tuple #[.slice A1 (cellsN vs us) c1, .slice A2 (cellsN vs us) c2]) ∧ TwoI w w' A1 (cellsN vs us) c1 (cellsC vs us rs (cellsN vs us) m) A2 (cellsN vs us) c2 (cellsK sd vs us rs (cellsN vs us) m) ∧ Below w.heap.size w w' := by
  have hm40 : m ≤ 40 := by have := hk.forty; rw [hy.len] at this; exact this
  have hl := Lib.hid hu.len
  have hl6 : l ≤ 6 := by have := hk.part.six; rw [hl.out] at this; exact this
  obtain ⟨hN1, hN2⟩ := cellsN_eq hk.part
  rw [hl.out] at hN1
  have HN1 := Lib.hid hN1
  clear hN1
  obtain ⟨N, hN⟩ : ∃ N, Hid (cellsN vs us = N) := ⟨_, Lib.hid rfl⟩
  rw [hN.out] at HN1 hN2
  have HX := Lib.hid hx
  have HY := Lib.hid hy
  have HU := Lib.hid hu
  clear hx hy hu
  go_enter Try.func64, Try.ntmps64
  go_wp2
  go_loopw [10, 20] (fun a i wr => ∃ j : Nat, j ≤ l ∧ i = .int .i64 j ∧ a = .int .i64 (prodN vs us j) ∧ w = wr) (fun _ i _ => l - (intOf i).toNat)
  case atStart => exact ⟨0, Nat.zero_le _, rfl, rfl, rfl⟩
  case round =>
  obtain ⟨j, hj, rfl, rfl, rfl⟩ := hrel
  by_cases hlt : j < l
  · have hju : j < us.length := by rw [hl.out]; exact hlt
    obtain ⟨hs1, hs2⟩ := hk.part.step hju
    obtain ⟨hi1, hi2⟩ := hk.part.ix_lt hju
    have ha := hk.part.at_ hju
    obtain ⟨au, rfl, hcu⟩ := HU.out.i.at_ hlt
    obtain ⟨asv, rfl, _, hcs⟩ := HX.out.v.at_ hi1
    rw [hi2] at hcu
    have R := Lib.hid (show prodN vs us j * vL vs (ix us j) = prodN vs us (j + 1) from rfl)
    generalize ix us j = t at *
    generalize vL vs t = L at *
    generalize prodN vs us j = a at *
    clear hju hi2
    go_wp2
    rw [R.out]
    go_roundw
    case rel => exact ⟨j + 1, by omega, by go_num, rfl, trivial⟩
    case measure => simp [intOf]; omega
  obtain rfl : l = j := by omega
  rw [HN1.out]
  have hmk : ∀ W : World, (Instr.makeSlice 27 (.int .i64 (N : Int)) (.int .i64 (N : Int))).run Try.prog W = .ok (.slice (some ⟨W.heap.size, 0, none⟩) N N) (W.alloc (.cells (madeCells #[.int .i64 0] N) 3)) := fun W => run_make_row' 27 3 (.int .i64 0) 8 Try.underlying27 Try.infoInt rfl .i64 .i64 N (by omega) (by omega) W
  go_wp2
  go_cut [13, 14] from 32 to 36 (fun u v wx => ∃ g1 g2, u = .slice (some ⟨g1, 0, none⟩) N N ∧ v = .slice (some ⟨g2, 0, none⟩) N N ∧ Hid (TwoAt w wx N g1 g2 (cellsC vs us rs N 0) (cellsK sd vs us rs N 0)) ∧ Hid (Below w.heap.size w wx))
  case first =>
    have MT := Lib.hid (made_two w N (by omega))
    go_region
    all_goals (go_wp2; go_meet; first | exact ⟨_, _, rfl, rfl, Lib.hid ⟨by omega, by omega, by omega, MT.out.1, MT.out.2.1⟩, Lib.hid MT.out.2.2.drew⟩ | exact ⟨_, _, rfl, rfl, Lib.hid ⟨by omega, by omega, by omega, MT.out.2.1, MT.out.1⟩, Lib.hid MT.out.2.2.drew⟩)
  case rest =>
  obtain ⟨g1, g2, rfl, rfl, HT, HB⟩ := hcut
  clear hmk
  generalize wc = w2 at *
  go_wp2
  go_loopw [38] (fun i wr => ∃ j : Nat, j ≤ m ∧ i = .int .i64 j ∧ Hid (TwoAt w wr N g1 g2 (cellsC vs us rs N j) (cellsK sd vs us rs N j)) ∧ Hid (Below w.heap.size w wr)) (fun i _ => m - (intOf i).toNat)
  case atStart => exact ⟨0, Nat.zero_le _, rfl, HT, HB⟩
  case round =>
    clear HT HB
    obtain ⟨j, hj, rfl, HT, HB⟩ := hrel
    by_cases hlt : j < m
    · obtain ⟨ad, rfl, c0, c1, V, lv, cv, c2, hv⟩ := HY.out.r.later HB.out hlt
      have hk1 := hk.at_ (show j < rs.length by rw [HY.out.len]; exact hlt)
      have hlv : lv ≤ 1099511627776 := by have := HY.out.s j hlt; rw [hv.1] at this; exact this
      have hlv6 : lv ≤ 100000 := by have := (valsB_of hk1.v).1; rw [hv.1] at this; have := hk1.part.len; have := (schB_of hk.s).1; omega
      obtain ⟨ht1, ht2⟩ := cellAt_lt hk1
      rw [hN.out] at ht2
      have HK1 := Lib.hid hk1
      have hcb := cellsC_bd vs us rs N j (cellAt vs us rs j)
      have hkb := cellsK_bd sd vs us rs N j (cellAt vs us rs j)
      have hrb := rkey_bd sd (rA rs j) (rH rs j) (rV rs j)
      have RC := Lib.hid (show (cellsC vs us rs N j).set (cellAt vs us rs j) ((cellsC vs us rs N j)[cellAt vs us rs j]?.getD 0 + 1) = cellsC vs us rs N (j + 1) from rfl)
      have RK := Lib.hid (show (cellsK sd vs us rs N j).set (cellAt vs us rs j) (((cellsK sd vs us rs N j)[cellAt vs us rs j]?.getD 0 + rkey sd (rA rs j) (rH rs j) (rV rs j)) % 65536) = cellsK sd vs us rs N (j + 1) from rfl)
      have HRK := Lib.hid (show rkey sd (rA rs j) (rH rs j) (rV rs j) = rkey sd (rA rs j) (rH rs j) (rV rs j) from rfl)
      have HKV := Lib.hid ht1
      have HV := Lib.hid hv
      clear hk1 hv ht1
      generalize hrk : rkey sd (rA rs j) (rH rs j) (rV rs j) = rk at *
      obtain ⟨x, hxe⟩ : ∃ x, rA rs j = x := ⟨_, rfl⟩
      obtain ⟨y, hye⟩ : ∃ y, rH rs j = y := ⟨_, rfl⟩
      rw [hxe, hye] at hrk
      rw [hxe] at c0
      rw [hye] at c1
      clear hxe hye
      have HR := Lib.hid hrk
      clear hrk HRK
      generalize cellAt vs us rs j = t at *
      generalize hcv : (cellsC vs us rs N j)[t]?.getD 0 = v1 at *
      generalize hkv : (cellsK sd vs us rs N j)[t]?.getD 0 = v2 at *
      have HC1 := Lib.hid hcv
      have HC2 := Lib.hid hkv
      clear hcv hkv
      have b1 := below_new wr (.cells #[.int .i64 x, .int .i64 y, .slice V lv cv] 53)
      have x1 := box_new wr #[.int .i64 x, .int .i64 y, .slice V lv cv] 53
      have T1 := Lib.hid (HT.out.below b1)
      have HB1 := Lib.hid (HB.out.trans (b1.mono HB.out.size))
      have X1 := Lib.hid x1
      have f0 := box_cell x1 0 (.int .i64 x) rfl
      have f1 := box_cell x1 1 (.int .i64 y) rfl
      have f2 := box_cell x1 2 (.slice V lv cv) rfl
      have hga : g1 < wr.heap.size ∧ g2 < wr.heap.size := ⟨HT.out.o1.size_lt, HT.out.o2.size_lt⟩
      clear b1 x1 HT HB
      go_wp2_with fail
      clear c0 c1 c2
      generalize wr.alloc (.cells #[.int .i64 x, .int .i64 y, .slice V lv cv] 53) = w3 at *
      refine (keyOf_any _ _ _ n _ lv _ l _ x y vs (rV rs j) us _ (HX.out.below HB1.out) ⟨HV.out.below HB1.out, hlv⟩ (HU.out.below HB1.out) HK1.out).mono ?_
      rintro e w4 ⟨rfl, b4⟩
      have T4 := Lib.hid (T1.out.below b4)
      have HB4 := Lib.hid (HB1.out.trans (b4.mono HB1.out.size))
      have X4 := Lib.hid (box_below X1.out b4)
      have hga4 := b4.size
      clear b4 f0 f1 f2 T1 HB1 X1
      rw [HKV.out]
      have e1 := Lib.hid (T4.out.o1.at_ ht2)
      have e2 := Lib.hid (T4.out.o2.at_ ht2)
      have p1 : w4.cell? ⟨g1, t, none⟩ = some (.int .i64 v1) := by
        obtain ⟨g, hg, _, _, hc, _⟩ := e1.out
        simp only [Option.some.injEq, Addr.mk.injEq, and_true] at hg
        subst hg; rw [← HC1.out]; exact hc
      have p1f : w4.frozen? ⟨g1, t, none⟩ = false := by
        obtain ⟨g, hg, _, _, _, hf⟩ := e1.out
        simp only [Option.some.injEq, Addr.mk.injEq, and_true] at hg
        subst hg; exact hf
      clear e1 e2
      have T5 := Lib.hid (T4.out.set1 (i := t) (v1 + 1))
      rw [RC.out] at T5
      have HB5 := Lib.hid (HB4.out.setCell (p := ⟨g1, t, none⟩) T4.out.b1 (.int .i64 (v1 + 1)))
      have X5 := Lib.hid ((Below.heap_setCell w4 ⟨g1, t, none⟩ (.int .i64 (v1 + 1)) wr.heap.size (by simp; omega)).trans X4.out)
      go_wp2
      clear p1 p1f T4 HB4 X4
      generalize w4.setCell ⟨g1, t, none⟩ (.int .i64 (v1 + 1)) = w5 at *
      have hne := T5.out.ne
      have p2 : w5.cell? ⟨g2, t, none⟩ = some (.int .i64 v2) := by
        obtain ⟨g, hg, _, _, hc, _⟩ := T5.out.o2.at_ ht2
        simp only [Option.some.injEq, Addr.mk.injEq, and_true] at hg
        subst hg; rw [← HC2.out]; exact hc
      have f0 := box_cell X5.out 0 (.int .i64 x) rfl
      have f1 := box_cell X5.out 1 (.int .i64 y) rfl
      have f2 := box_cell X5.out 2 (.slice V lv cv) rfl
      have hw1 : IntKind.i64.wrap (v2 + rk) = v2 + rk := IntWalk.i64_in _ (by omega)
      obtain ⟨z, hz⟩ : ∃ z, (v2 + rk) % 65536 = z := ⟨_, rfl⟩
      have hw2 : (v2 + rk).tmod 65536 = z := by rw [← hz]; exact Int.tmod_eq_emod_of_nonneg (by omega)
      have hz0 : 0 ≤ v2 + rk := by omega
      rw [hz] at RK
      have lp := block_lt_of_cell p2
      have lx := block_lt_of_cell f0
      have hzb : 0 ≤ z ∧ z < 65536 := by rw [← hz]; exact ⟨Int.emod_nonneg _ (by omega), Int.emod_lt_of_pos _ (by omega)⟩
      clear hz
      go_region_with
        ((go_at_call 78; refine (recordKey_any sd x y V lv cv (rV rs j) _ (by exact HV.out.below (HB5.out.drew)) hlv6).mono ?_; rintro e w6 ⟨rfl, b6⟩; rw [HR.out]; have q2 := (b6.cell (p := ⟨g2, t, none⟩) lp).trans p2; have q0 := (b6.cell (p := ⟨wr.heap.size, 0, none⟩) lx).trans f0; have q1 := (b6.cell (p := ⟨wr.heap.size, 1, none⟩) lx).trans f1; have q3 := (b6.cell (p := ⟨wr.heap.size, 2, none⟩) lx).trans f2; have T6 := Lib.hid (TwoAt.below (w := World.drew w5) ⟨T5.out.ne, T5.out.b1, T5.out.b2, T5.out.o1, T5.out.o2⟩ b6); have HB6 := Lib.hid (HB5.out.drew.trans (b6.mono HB5.out.size)); have q2f := World.ownsRow.frozenAt T6.out.o2 t; clear b6))
      all_goals
        clear hw1 hw2
        have T7 := Lib.hid (T6.out.set2 (i := t) z)
        rw [RK.out] at T7
        have HB7 := Lib.hid (HB6.out.setCell (p := ⟨g2, t, none⟩) T6.out.b2 (.int .i64 z))
        clear T6 HB6
        go_wp2
        go_roundw
        case rel => exact ⟨j + 1, by omega, by go_num, T7, HB7⟩
        case measure => simp [intOf]; omega
    · obtain rfl : j = m := by omega
      have hT := HT.out.two (by omega)
      have hB := HB.out
      clear HT HB
      go_wp2
      go_ret2
      rw [hN.out]
      exact ⟨_, _, _, _, rfl, hT, hB⟩

set_option maxRecDepth 100000 in
set_option maxHeartbeats 4000000 in
theorem yCells_any (sd : Int) (A B U : Option Addr) (n c m d l k' : Nat) (vs : List (ByteArray × Int)) (rs : List RecD) (us : List Int) (w : World) (hx : SchR w A n c vs) (hy : DatR w B m rs) (hu : IntR w U l us) (hk : AllOk vs rs us n) :
    Calls Try.prog 56 #[.int .i64 sd, .slice A n c, .slice B m d, .slice U l k'] w fun e w' => ∃ A1 c1 A2 c2, e = .returned (.tuple #[.slice A1 (cellsN vs us) c1, .slice A2 (cellsN vs us) c2]) ∧ TwoI w w' A1 (cellsN vs us) c1 (cellsC vs us rs (cellsN vs us) m) A2 (cellsN vs us) c2 (cellsK sd vs us rs (cellsN vs us) m) ∧ Below w.heap.size w w' := by
  have hm40 : m ≤ 40 := by have := hk.forty; rw [hy.len] at this; exact this
  have hl := Lib.hid hu.len
  have hl6 : l ≤ 6 := by have := hk.part.six; rw [hl.out] at this; exact this
  obtain ⟨hN1, hN2⟩ := cellsN_eq hk.part
  rw [hl.out] at hN1
  have HN1 := Lib.hid hN1
  clear hN1
  obtain ⟨N, hN⟩ : ∃ N, Hid (cellsN vs us = N) := ⟨_, Lib.hid rfl⟩
  rw [hN.out] at HN1 hN2
  have HX := Lib.hid hx
  have HY := Lib.hid hy
  have HU := Lib.hid hu
  clear hx hy hu
  go_enter Try.func56, Try.ntmps56
  go_wp2_with fail
  refine (sPart_any _ _ n _ l _ vs us _ HX.out HU.out hk.part).mono ?_
  rintro e w1 ⟨P, pc, rfl, oP, b1⟩
  have hP1 := b1.size
  have HB1 := Lib.hid b1
  clear b1
  go_wp2_with fail
  refine (sCount_any _ n _ l vs us _ oP.vars hl.out hk.part).mono ?_
  rintro e w2 ⟨rfl, b2⟩
  rw [HN1.out]
  have hmk : ∀ W : World, (Instr.makeSlice 27 (.int .i64 (N : Int)) (.int .i64 (N : Int))).run Try.prog W = .ok (.slice (some ⟨W.heap.size, 0, none⟩) N N) (W.alloc (.cells (madeCells #[.int .i64 0] N) 3)) := fun W => run_make_row' 27 3 (.int .i64 0) 8 Try.underlying27 Try.infoInt rfl .i64 .i64 N (by omega) (by omega) W
  have hP2 := b2.size
  have HB2 := Lib.hid (HB1.out.trans (b2.mono hP1))
  have oP2 := oP.below b2
  clear b2 oP HB1
  go_wp2_with fail
  have b3 := below_new w2 (.cells (madeCells #[.int .i64 0] N) 3)
  have o3 := own_made w2 N (by omega)
  have hP3 : (w2.alloc (.cells (madeCells #[.int .i64 0] N) 3)).heap.size = w2.heap.size + 1 := by simp
  have HP3 := Lib.hid hP3
  clear hP3
  generalize w2.alloc (.cells (madeCells #[.int .i64 0] N) 3) = w3 at *
  have HB3 := Lib.hid (HB2.out.trans (b3.mono HB2.out.size))
  have oP3 := oP2.below b3
  clear b3 oP2
  refine (sCount_any _ n _ l vs us _ oP3.vars hl.out hk.part).mono ?_
  rintro e w4 ⟨rfl, b4⟩
  rw [HN1.out]
  have hP4 : w2.heap.size + 1 ≤ w4.heap.size := by have := b4.size; rw [HP3.out] at this; exact this
  have HB4 := Lib.hid (HB3.out.trans (b4.mono HB3.out.size))
  have oP4 := oP3.below b4
  have o4 := o3.below b4
  clear b4 oP3 o3 HB3
  have b5 := below_new w4 (.cells (madeCells #[.int .i64 0] N) 3)
  have o5 := own_made w4 N (by omega)
  have hP5 : w2.heap.size ≤ w4.heap.size := by omega
  have HB := Lib.hid (HB4.out.trans (b5.mono HB4.out.size))
  have HP := Lib.hid (oP4.below b5)
  have HT : Hid (TwoAt w (w4.alloc (.cells (madeCells #[.int .i64 0] N) 3)) N w2.heap.size w4.heap.size (cellsC vs us rs N 0) (cellsK sd vs us rs N 0)) := Lib.hid ⟨by omega, HB2.out.size, HB4.out.size, o4.below b5, o5⟩
  clear b5 o5 o4 oP4 HB4
  go_wp2
  clear hmk
  generalize w4.alloc (.cells (madeCells #[.int .i64 0] N) 3) = w5 at *
  clear HP3 HB2
  generalize w2.heap.size = g1 at *
  generalize w4.heap.size = g2 at *
  generalize w1.heap.size = pz at *
  have hp1 : pz ≤ g1 := hP2
  have hp2 : pz ≤ g2 := by omega
  go_loopw [27] (fun i wr => ∃ j : Nat, j ≤ m ∧ i = .int .i64 j ∧ Hid (TwoAt w wr N g1 g2 (cellsC vs us rs N j) (cellsK sd vs us rs N j)) ∧ Hid (Below w.heap.size w wr) ∧ Hid (OwnV wr w.heap.size pz P l pc (partL vs us l))) (fun i _ => m - (intOf i).toNat)
  case atStart => exact ⟨0, Nat.zero_le _, rfl, HT, HB, HP⟩
  case round =>
    clear HT HB HP
    obtain ⟨j, hj, rfl, HT, HB, HP⟩ := hrel
    by_cases hlt : j < m
    · obtain ⟨ad, rfl, c0, c1, V, lv, cv, c2, hv⟩ := HY.out.r.later HB.out hlt
      have hk1 := hk.at_ (show j < rs.length by rw [HY.out.len]; exact hlt)
      have hlv : lv ≤ 1099511627776 := by have := HY.out.s j hlt; rw [hv.1] at this; exact this
      have hlv6 : lv ≤ 100000 := by have := (valsB_of hk1.v).1; rw [hv.1] at this; have := hk1.part.len; have := (schB_of hk.s).1; omega
      obtain ⟨ht1, ht2⟩ := cellAt_lt hk1
      rw [hN.out] at ht2
      have HK1 := Lib.hid hk1
      have hcb := cellsC_bd vs us rs N j (cellAt vs us rs j)
      have hkb := cellsK_bd sd vs us rs N j (cellAt vs us rs j)
      have hrb := rkey_bd sd (rA rs j) (rH rs j) (rV rs j)
      have RC := Lib.hid (show (cellsC vs us rs N j).set (cellAt vs us rs j) ((cellsC vs us rs N j)[cellAt vs us rs j]?.getD 0 + 1) = cellsC vs us rs N (j + 1) from rfl)
      have RK := Lib.hid (show (cellsK sd vs us rs N j).set (cellAt vs us rs j) (((cellsK sd vs us rs N j)[cellAt vs us rs j]?.getD 0 + rkey sd (rA rs j) (rH rs j) (rV rs j)) % 65536) = cellsK sd vs us rs N (j + 1) from rfl)
      have HRK := Lib.hid (show rkey sd (rA rs j) (rH rs j) (rV rs j) = rkey sd (rA rs j) (rH rs j) (rV rs j) from rfl)
      have HKV := Lib.hid ht1
      have HV := Lib.hid hv
      clear hk1 hv ht1
      generalize hrk : rkey sd (rA rs j) (rH rs j) (rV rs j) = rk at *
      obtain ⟨x, hxe⟩ : ∃ x, rA rs j = x := ⟨_, rfl⟩
      obtain ⟨y, hye⟩ : ∃ y, rH rs j = y := ⟨_, rfl⟩
      rw [hxe, hye] at hrk
      rw [hxe] at c0
      rw [hye] at c1
      clear hxe hye
      have HR := Lib.hid hrk
      clear hrk HRK
      generalize cellAt vs us rs j = t at *
      generalize hcv : (cellsC vs us rs N j)[t]?.getD 0 = v1 at *
      generalize hkv : (cellsK sd vs us rs N j)[t]?.getD 0 = v2 at *
      have HC1 := Lib.hid hcv
      have HC2 := Lib.hid hkv
      clear hcv hkv
      have b1 := below_new wr (.cells #[.int .i64 x, .int .i64 y, .slice V lv cv] 53)
      have x1 := box_new wr #[.int .i64 x, .int .i64 y, .slice V lv cv] 53
      have T1 := Lib.hid (HT.out.below b1)
      have HB1 := Lib.hid (HB.out.trans (b1.mono HB.out.size))
      have X1 := Lib.hid x1
      have f0 := box_cell x1 0 (.int .i64 x) rfl
      have f1 := box_cell x1 1 (.int .i64 y) rfl
      have f2 := box_cell x1 2 (.slice V lv cv) rfl
      have hga : g1 < wr.heap.size ∧ g2 < wr.heap.size := ⟨HT.out.o1.size_lt, HT.out.o2.size_lt⟩
      have HP1 := Lib.hid (HP.out.below b1)
      clear HP
      clear b1 x1 HT HB
      go_wp2_with fail
      clear c0 c1 c2
      generalize wr.alloc (.cells #[.int .i64 x, .int .i64 y, .slice V lv cv] 53) = w3 at *
      refine (sPick_any _ _ lv _ l _ (rV rs j) us _ ⟨HV.out.below HB1.out, hlv⟩ (HU.out.below HB1.out) (fun k hkl => by
        have h1 := HK1.out.ix_lt (k := k) (by rw [hl.out]; exact hkl)
        have h2 := (valsB_of HK1.out.v).1
        rw [HV.out.1, HK1.out.len] at h2
        rw [h2]; exact h1)).mono ?_
      rintro e w3b ⟨Ap, cp, rfl, op, b3⟩
      have T3 := Lib.hid (T1.out.below b3)
      have HB3 := Lib.hid (HB1.out.trans (b3.mono HB1.out.size))
      have X3 := Lib.hid (box_below X1.out b3)
      have HP3 := Lib.hid (HP1.out.below b3)
      have hga3 := b3.size
      clear b3 f0 f1 f2 T1 HB1 X1 HP1
      go_wp2_with fail
      refine (sIndex_any _ _ n _ l _ vs (rV rs j) us _ HP3.out.vars op.ints hl.out HK1.out).mono ?_
      rintro e w4 ⟨rfl, b4⟩
      have T4 := Lib.hid (T3.out.below b4)
      have HB4 := Lib.hid (HB3.out.trans (b4.mono HB3.out.size))
      have X4 := Lib.hid (box_below X3.out b4)
      have HP4 := Lib.hid (HP3.out.below b4)
      have hga4 := b4.size
      clear b4 T3 HB3 X3 HP3 op
      rw [HKV.out]
      have e1 := Lib.hid (T4.out.o1.at_ ht2)
      have e2 := Lib.hid (T4.out.o2.at_ ht2)
      have p1 : w4.cell? ⟨g1, t, none⟩ = some (.int .i64 v1) := by
        obtain ⟨g, hg, _, _, hc, _⟩ := e1.out
        simp only [Option.some.injEq, Addr.mk.injEq, and_true] at hg
        subst hg; rw [← HC1.out]; exact hc
      have p1f : w4.frozen? ⟨g1, t, none⟩ = false := by
        obtain ⟨g, hg, _, _, _, hf⟩ := e1.out
        simp only [Option.some.injEq, Addr.mk.injEq, and_true] at hg
        subst hg; exact hf
      clear e1 e2
      have T5 := Lib.hid (T4.out.set1 (i := t) (v1 + 1))
      rw [RC.out] at T5
      have HB5 := Lib.hid (HB4.out.setCell (p := ⟨g1, t, none⟩) T4.out.b1 (.int .i64 (v1 + 1)))
      have X5 := Lib.hid ((Below.heap_setCell w4 ⟨g1, t, none⟩ (.int .i64 (v1 + 1)) wr.heap.size (by simp; omega)).trans X4.out)
      have HP5 := Lib.hid (HP4.out.chg ((Chg.refl g1 (g1 + 1) w4).set (i := t) (v := .int .i64 (v1 + 1)) (Nat.le_refl _) (Nat.lt_succ_self _)) (.inl hp1))
      clear HP4
      go_wp2
      clear p1 p1f T4 HB4 X4
      generalize w4.setCell ⟨g1, t, none⟩ (.int .i64 (v1 + 1)) = w5 at *
      have hne := T5.out.ne
      have p2 : w5.cell? ⟨g2, t, none⟩ = some (.int .i64 v2) := by
        obtain ⟨g, hg, _, _, hc, _⟩ := T5.out.o2.at_ ht2
        simp only [Option.some.injEq, Addr.mk.injEq, and_true] at hg
        subst hg; rw [← HC2.out]; exact hc
      have f0 := box_cell X5.out 0 (.int .i64 x) rfl
      have f1 := box_cell X5.out 1 (.int .i64 y) rfl
      have f2 := box_cell X5.out 2 (.slice V lv cv) rfl
      have hw1 : IntKind.i64.wrap (v2 + rk) = v2 + rk := IntWalk.i64_in _ (by omega)
      obtain ⟨z, hz⟩ : ∃ z, (v2 + rk) % 65536 = z := ⟨_, rfl⟩
      have hw2 : (v2 + rk).tmod 65536 = z := by rw [← hz]; exact Int.tmod_eq_emod_of_nonneg (by omega)
      have hz0 : 0 ≤ v2 + rk := by omega
      rw [hz] at RK
      have lp := block_lt_of_cell p2
      have lx := block_lt_of_cell f0
      have hzb : 0 ≤ z ∧ z < 65536 := by rw [← hz]; exact ⟨Int.emod_nonneg _ (by omega), Int.emod_lt_of_pos _ (by omega)⟩
      clear hz
      go_region_with
        ((go_at_call 82; refine (yKey_any sd x y V lv cv (rV rs j) _ (by exact HV.out.below (HB5.out.drew)) hlv6).mono ?_; rintro e w6 ⟨rfl, b6⟩; rw [HR.out]; have q2 := (b6.cell (p := ⟨g2, t, none⟩) lp).trans p2; have q0 := (b6.cell (p := ⟨wr.heap.size, 0, none⟩) lx).trans f0; have q1 := (b6.cell (p := ⟨wr.heap.size, 1, none⟩) lx).trans f1; have q3 := (b6.cell (p := ⟨wr.heap.size, 2, none⟩) lx).trans f2; have T6 := Lib.hid (TwoAt.below (w := World.drew w5) ⟨T5.out.ne, T5.out.b1, T5.out.b2, T5.out.o1, T5.out.o2⟩ b6); have HB6 := Lib.hid (HB5.out.drew.trans (b6.mono HB5.out.size)); have q2f := World.ownsRow.frozenAt T6.out.o2 t; have HP6 := Lib.hid (OwnV.below (w := World.drew w5) ⟨HP5.out.own, HP5.out.top, HP5.out.small⟩ b6); clear b6))
      all_goals
        clear hw1 hw2
        have T7 := Lib.hid (T6.out.set2 (i := t) z)
        rw [RK.out] at T7
        have HB7 := Lib.hid (HB6.out.setCell (p := ⟨g2, t, none⟩) T6.out.b2 (.int .i64 z))
        have HP7 := Lib.hid (HP6.out.chg ((Chg.refl g2 (g2 + 1) w6).set (i := t) (v := .int .i64 z) (Nat.le_refl _) (Nat.lt_succ_self _)) (.inl hp2))
        clear T6 HB6
        go_wp2
        go_roundw
        case rel => exact ⟨j + 1, by omega, by go_num, T7, HB7, HP7⟩
        case measure => simp [intOf]; omega
    · obtain rfl : j = m := by omega
      have hT := HT.out.two (by omega)
      have hB := HB.out
      clear HT HB HP
      go_wp2
      go_ret2
      rw [hN.out]
      exact ⟨_, _, _, _, rfl, hT, hB⟩
end

section
open Go.RowKit

def kcB (sd : Int) (vs : List (ByteArray × Int)) (rs : List RecD) (us : List Int) : Bool := inR sd 0 4611686016279904236 && keyedB vs rs us
def kcC (sd : Int) (vs : List (ByteArray × Int)) (rs : List RecD) (us : List Int) : List Int := if kcB sd vs rs us = true then cellsC vs us rs (cellsN vs us) rs.length else []
def kcK (sd : Int) (vs : List (ByteArray × Int)) (rs : List RecD) (us : List Int) : List Int := if kcB sd vs rs us = true then cellsK sd vs us rs (cellsN vs us) rs.length else []
def RetTwo (w : World) (L1 L2 : List Int) (b : Bool) (e : Ending) (w' : World) : Prop :=
  ∃ A1 c1 A2 c2, e = .returned (.tuple #[.slice A1 L1.length c1, .slice A2 L2.length c2, .bool b]) ∧ TwoI w w' A1 L1.length c1 L1 A2 L2.length c2 L2 ∧ Below w.heap.size w w'
theorem TwoI.nil_ {w w' : World} (h : w.heap.size ≤ w'.heap.size) : TwoI w w' none 0 0 [] none 0 0 [] :=
  ⟨w.heap.size, w.heap.size, w.heap.size, w.heap.size, Nat.le_refl _, h, Nat.le_refl _, h, .inl (Nat.le_refl _), OwnI.nil_, OwnI.nil_⟩
theorem TwoI.fit {w0 w w' : World} {A1 A2 : Option Addr} {n1 c1 n2 c2 : Nat} {l1 l2 : List Int} (h : TwoI w w' A1 n1 c1 l1 A2 n2 c2 l2) (hw : w0.heap.size ≤ w.heap.size) : TwoI w0 w' A1 n1 c1 l1 A2 n2 c2 l2 := by
  obtain ⟨p1, q1, p2, q2, h1, h2, h3, h4, h5, h6, h7⟩ := h
  exact ⟨p1, q1, p2, q2, by omega, h2, by omega, h4, h5, h6, h7⟩

set_option maxHeartbeats 1000000 in
theorem yInput_any (sd : Int) (A B U : Option Addr) (n c m d l k' : Nat) (vs : List (ByteArray × Int)) (rs : List RecD) (us : List Int) (w : World) (hx : SchR w A n c vs) (hy : DatR w B m rs) (hu : IntR w U l us) :
    Calls Try.prog 53 #[.int .i64 sd, .slice A n c, .slice B m d, .slice U l k'] w fun e w' => e = .returned (.bool (kcB sd vs rs us)) ∧ Below w.heap.size w w' := by
  have hn := hx.bd
  have hlen := Lib.hid hx.len
  have b0 := below_new w (.cells #[.int .i64 sd] 3)
  have O := own_new w [sd] 1 rfl (by omega)
  cases h0 : inR sd 0 4611686016279904236
  · have R := Lib.hid (show false = kcB sd vs rs us by unfold kcB; rw [h0]; rfl)
    have H0 := Lib.hid h0
    clear h0
    go_enter Try.func53, Try.ntmps53
    go_wp2_with fail
    refine (hDigest_any _ _ _ [sd] _ O.ints (by omega)).mono ?_
    rintro e w1 ⟨rfl, rfl⟩
    rw [allR_one, H0.out]
    go_wp2
    go_ret
    exact ⟨ret_bool R.out, b0⟩
  have H0 := Lib.hid h0
  cases h1 : dinB vs rs
  · have R := Lib.hid (show false = kcB sd vs rs us by
      unfold kcB keyedB; rw [h0]; unfold dinB at h1
      cases hs : schB vs <;> cases hd : dataB vs rs <;> simp_all)
    have H1 := Lib.hid h1
    clear h0 h1
    have hx0 := hx.below b0
    have hy0 := hy.below b0
    go_enter Try.func53, Try.ntmps53
    go_wp2_with fail
    refine (hDigest_any _ _ _ [sd] _ O.ints (by omega)).mono ?_
    rintro e w1 ⟨rfl, rfl⟩
    rw [allR_one, H0.out]
    clear O
    go_wp2_with fail
    refine (dInput_any _ _ n _ m _ vs rs _ hx0 hy0).mono ?_
    rintro e w2 ⟨rfl, b2⟩
    rw [H1.out]
    have B2 := Lib.hid (b0.trans (b2.mono b0.size))
    clear b2 hx hy hu hx0 hy0
    go_wp2
    go_ret
    exact ⟨ret_bool R.out, B2.out⟩
  have H1 := Lib.hid h1
  have R := Lib.hid (show risB us n = kcB sd vs rs us by
    unfold kcB keyedB; rw [h0, hlen.out]; unfold dinB at h1
    cases hs : schB vs <;> cases hd : dataB vs rs <;> simp_all)
  clear h0 h1
  have hx0 := hx.below b0
  have hy0 := hy.below b0
  have hu0 := hu.below b0
  go_enter Try.func53, Try.ntmps53
  go_wp2_with fail
  refine (hDigest_any _ _ _ [sd] _ O.ints (by omega)).mono ?_
  rintro e w1 ⟨rfl, rfl⟩
  rw [allR_one, H0.out]
  clear O
  go_wp2_with fail
  refine (dInput_any _ _ n _ m _ vs rs _ hx0 hy0).mono ?_
  rintro e w2 ⟨rfl, b2⟩
  rw [H1.out]
  have B2 := Lib.hid (b0.trans (b2.mono b0.size))
  have hu2 := hu0.below b2
  clear b2 hx hy hu hx0 hy0
  go_wp2_with fail
  refine (l1Rising_any _ n l _ us _ hn hu2).mono ?_
  rintro e w3 ⟨rfl, rfl⟩
  rw [R.out]
  clear hu2
  go_wp2
  go_ret
  exact ⟨rfl, B2.out⟩

set_option maxHeartbeats 1000000 in
theorem implKeyedCells_law (sd : Int) (A B U : Option Addr) (n c m d l k' : Nat) (vs : List (ByteArray × Int)) (rs : List RecD) (us : List Int) (w : World) (hx : SchR w A n c vs) (hy : DatR w B m rs) (hu : IntR w U l us) :
    Calls Try.prog 32 #[.int .i64 sd, .slice A n c, .slice B m d, .slice U l k'] w (RetTwo w (kcC sd vs rs us) (kcK sd vs rs us) (kcB sd vs rs us)) := by
  have hlen := hx.len
  have hml := Lib.hid hy.len
  cases h0 : inR sd 0 4611686016279904236
  · have hB : kcB sd vs rs us = false := by unfold kcB; rw [h0]; rfl
    have H0 := Lib.hid h0
    clear h0
    have HB := Lib.hid hB
    have HC : Hid (kcC sd vs rs us = []) := Lib.hid (by rw [kcC, if_neg (by simp [hB])])
    have HK : Hid (kcK sd vs rs us = []) := Lib.hid (by rw [kcK, if_neg (by simp [hB])])
    rw [HC.out, HK.out, HB.out]
    clear hB hlen
    go_enter Try.func32, Try.ntmps32
    go_wp2_with fail
    refine (isSeed_any _ _).mono ?_
    rintro e w1 ⟨rfl, rfl⟩
    rw [H0.out]
    clear hx hy hu
    go_wp2
    go_ret3
    exact ⟨none, 0, none, 0, rfl, TwoI.nil_ (Nat.le_refl _), (Below.refl _ _)⟩
  have H0 := Lib.hid h0
  cases h1 : keyedB vs rs us
  · have hB : kcB sd vs rs us = false := by unfold kcB; rw [h0, h1]; rfl
    have H1 := Lib.hid h1
    clear h0 h1
    have HB := Lib.hid hB
    have HC : Hid (kcC sd vs rs us = []) := Lib.hid (by rw [kcC, if_neg (by simp [hB])])
    have HK : Hid (kcK sd vs rs us = []) := Lib.hid (by rw [kcK, if_neg (by simp [hB])])
    rw [HC.out, HK.out, HB.out]
    clear hB hlen
    go_enter Try.func32, Try.ntmps32
    go_wp2_with fail
    refine (isSeed_any _ _).mono ?_
    rintro e w1 ⟨rfl, rfl⟩
    rw [H0.out]
    go_wp2_with fail
    refine (areKeyed_any _ _ _ n _ m _ l _ vs rs us _ hx hy hu).mono ?_
    rintro e w2 ⟨rfl, b1⟩
    rw [H1.out]
    have B1 := Lib.hid b1
    clear b1 hx hy hu
    go_wp2
    go_ret3
    exact ⟨none, 0, none, 0, rfl, TwoI.nil_ B1.out.size, B1.out⟩
  have H1 := Lib.hid h1
  have hB : kcB sd vs rs us = true := by unfold kcB; rw [h0, h1]; rfl
  clear h0 h1
  have HB := Lib.hid hB
  have HC : Hid (kcC sd vs rs us = cellsC vs us rs (cellsN vs us) m) := Lib.hid (by rw [kcC, if_pos hB, hml.out])
  have HK : Hid (kcK sd vs rs us = cellsK sd vs us rs (cellsN vs us) m) := Lib.hid (by rw [kcK, if_pos hB, hml.out])
  have hk := keyed_all hlen (by simp only [kcB, Bool.and_eq_true] at hB; exact hB.2)
  have HL1 := Lib.hid (cellsC_len vs us rs (cellsN vs us) m)
  have HL2 := Lib.hid (cellsK_len sd vs us rs (cellsN vs us) m)
  rw [HC.out, HK.out]
  rw [HB.out]
  clear hB hlen
  go_enter Try.func32, Try.ntmps32
  go_wp2_with fail
  refine (isSeed_any _ _).mono ?_
  rintro e w1 ⟨rfl, rfl⟩
  rw [H0.out]
  go_wp2_with fail
  refine (areKeyed_any _ _ _ n _ m _ l _ vs rs us _ hx hy hu).mono ?_
  rintro e w2 ⟨rfl, b1⟩
  rw [H1.out]
  have hx1 := hx.below b1
  have hy1 := hy.below b1
  have hu1 := hu.below b1
  have B1 := Lib.hid b1
  clear b1 hx hy hu
  go_wp2_with fail
  refine (keyedCells_any sd _ _ _ n _ m _ l _ vs rs us _ hx1 hy1 hu1 hk).mono ?_
  rintro e w9 ⟨A1, c1, A2, c2, rfl, T9, b9⟩
  have B9 := Lib.hid (B1.out.trans (b9.mono B1.out.size))
  have T := Lib.hid (T9.fit B1.out.size)
  clear b9 T9 hx1 hy1 hu1
  go_wp2
  go_ret3
  exact ⟨A1, c1, A2, c2, by rw [HL1.out, HL2.out]; rfl, by rw [HL1.out, HL2.out]; exact T.out, B9.out⟩
end
end Go.Proofs.Ytgeilnkglbcmeaa
