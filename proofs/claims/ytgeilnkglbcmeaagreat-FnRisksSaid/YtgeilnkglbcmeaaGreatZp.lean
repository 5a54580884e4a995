/- Several small texts in one: ApP, ApO, App, ApS, ApW, Mov. -/
import Derived.Test.YtgeilnkglbcmeaaGreatZo
namespace Go.Proofs.YtgeilnkglbcmeaaGreat

section
open Go.RowKit

/-- A row is a pair of indices below n, the smaller first. -/
def pairB (r : List Int) (n : Nat) : Bool := decide (r.length = 2) && (inR (r[0]?.getD 0) 0 ((n : Int) - 1) && inR (r[1]?.getD 0) (r[0]?.getD 0 + 1) ((n : Int) - 1))
def pairsB (R : List (List Int)) (n : Nat) : Bool := allTo (fun t => pairB (R[t]?.getD []) n) R.length && decide (R.length ≤ 20)
theorem pairsB_no {R : List (List Int)} {n k : Nat} (hk : k < R.length) (h : pairB (R[k]?.getD []) n = false) : pairsB R n = false := by
  unfold pairsB
  rw [allTo_no (p := fun t => pairB (R[t]?.getD []) n) hk h]
  rfl
theorem pairsB_end {R : List (List Int)} {n : Nat} (h : ∀ k, k < R.length → pairB (R[k]?.getD []) n = true) : pairsB R n = decide (R.length ≤ 20) := by
  unfold pairsB
  rw [allTo_yes (p := fun t => pairB (R[t]?.getD []) n) h]
  rfl
theorem pairB_of {r : List Int} {n : Nat} (h : pairB r n = true) : ∃ a b : Nat, r = [(a : Int), (b : Int)] ∧ a < b ∧ b < n := by
  unfold pairB at h
  simp only [Bool.and_eq_true, decide_eq_true_eq] at h
  obtain ⟨h2, h3, h4⟩ := h
  match r, h2 with
  | [x, y], _ =>
    have h3 := inR_of h3
    have h4 := inR_of h4
    simp at h3 h4
    refine ⟨x.toNat, y.toNat, ?_, by omega, by omega⟩
    rw [Int.toNat_of_nonneg (by omega), Int.toNat_of_nonneg (by omega)]
theorem pairsB_of {R : List (List Int)} {n : Nat} (h : pairsB R n = true) : R.length ≤ 20 ∧ ∀ k, k < R.length → ∃ a b : Nat, R[k]?.getD [] = [(a : Int), (b : Int)] ∧ a < b ∧ b < n := by
  unfold pairsB at h
  simp only [Bool.and_eq_true, decide_eq_true_eq] at h
  exact ⟨h.2, fun k hk => pairB_of (allTo_of h.1 k hk)⟩

theorem l1In_q (x lo hi : Int) (W : World) : Calls Tryz.prog 44 #[.int .i64 x, .int .i64 lo, .int .i64 hi] W fun e w' => e = .returned (.bool (inR x lo hi)) ∧ w' = W := (l1In_any x lo hi W).mono fun _ _ ⟨h1, h2⟩ => ⟨h1, h2.symm⟩

set_option maxRecDepth 100000 in
set_option maxHeartbeats 4000000 in
theorem swPairs_any (A : Option Addr) (c n : Nat) (R : List (List Int)) (w : World) (hr : IntsS w A R.length (fun t => R[t]?.getD [])) (hl : R.length ≤ 1099511627776) (hn : n ≤ 1000) :
    Calls Tryz.prog 87 #[.slice A R.length c, .int .i64 n] w fun e w' => e = .returned (.bool (pairsB R n)) ∧ Below w.heap.size w w' := by
  have hw1 : IntKind.i64.wrap ((n : Int) - 1) = (n : Int) - 1 := IntWalk.i64_in _ (by omega)
  have HR := Lib.hid hr
  have HE := Lib.hid (fun h => pairsB_end (R := R) (n := n) h)
  have HF := Lib.hid (fun k hk h => pairsB_no (R := R) (n := n) (k := k) hk h)
  generalize pairsB R n = PB at *
  clear hr
  go_enter Tryz.func87, Tryz.ntmps87
  go_wp2
  go_loopw [9] (fun i wr => ∃ (k : Nat), k ≤ R.length ∧ i = .int .i64 k ∧ Hid (∀ j, j < k → pairB (R[j]?.getD []) n = true) ∧ Below w.heap.size w wr) (fun i _ => R.length - (intOf i).toNat)
  case atStart => exact ⟨0, Nat.zero_le _, rfl, Lib.hid (fun j h => absurd h (by omega)), Below.refl _ _⟩
  case round =>
    obtain ⟨k, hk, rfl, HP, hbw⟩ := hrel
    by_cases hlt : k < R.length
    · obtain ⟨ad, rfl, V, cc, q5, hV⟩ := (HR.out.below hbw).at_ hlt
      have HFk := Lib.hid (HF.out k hlt)
      have HYk : Hid (pairB (R[k]?.getD []) n = true → ∀ j, j < k + 1 → pairB (R[j]?.getD []) n = true) := Lib.hid (fun h j hj => by
        rcases Nat.lt_or_ge j k with h1 | h1
        · exact HP.out j h1
        · obtain rfl : j = k := by omega
          exact h)
      replace hV : Ints wr V (R[k]?.getD []).length (R[k]?.getD []) := hV
      replace q5 : wr.cell? (ad.add k) = some (.slice V (R[k]?.getD []).length cc) := q5
      generalize R[k]?.getD [] = r at *
      clear HR HE HF HP
      by_cases h2 : r.length = 2
      · obtain ⟨a, b, rfl⟩ : ∃ a b, r = [a, b] := by
          match r, h2 with
          | [a, b], _ => exact ⟨a, b, rfl⟩
        clear h2
        obtain ⟨ad6, rfl, p0⟩ := hV.at_ (show 0 < [a, b].length by simp)
        obtain ⟨ad6', e6, p1⟩ := hV.at_ (show 1 < [a, b].length by simp)
        simp only [Option.some.injEq] at e6
        subst e6
        replace q5 : wr.cell? (ad.add k) = some (.slice (some ad6) 2 cc) := q5
        have p00 : wr.cell? ad6 = some (.int .i64 a) := by have := p0; simpa [Addr.add] using this
        have p11 : wr.cell? { block := ad6.block, off := ad6.off + 1, spot := none } = some (.int .i64 b) := by have := p1; simpa [Addr.add] using this
        have HB : pairB [a, b] n = (inR a 0 ((n : Int) - 1) && inR b (a + 1) ((n : Int) - 1)) := by unfold pairB; simp
        rw [HB] at HFk HYk
        clear HB hV p0 p1
        cases h3 : inR a 0 ((n : Int) - 1)
        · have H3 := Lib.hid h3
          have RF := Lib.hid (HFk.out (by rw [h3]; rfl))
          obtain rfl : PB = false := RF.out
          clear HFk HYk
          go_wp2_with fail
          go_quiet ((go_at_call 44; exact Calls.quiet_of_same (l1In_q _ _ _ _)))
          go_wp2
          go_ret
          exact ⟨rfl, below_drewN hbw _⟩
        · have H3 := Lib.hid h3
          have ha := inR_of h3
          obtain ⟨sm, hsm⟩ : ∃ sm, a + 1 = sm := ⟨_, rfl⟩
          have hw2 : IntKind.i64.wrap (a + 1) = sm := (IntWalk.i64_in _ (by omega)).trans hsm
          rw [hsm] at HFk HYk
          clear hsm ha
          cases h4 : inR b sm ((n : Int) - 1)
          · have H4 := Lib.hid h4
            have RF := Lib.hid (HFk.out (by rw [h4]; simp))
            obtain rfl : PB = false := RF.out
            clear HFk HYk
            go_wp2_with fail
            go_quiet ((go_at_call 44; exact Calls.quiet_of_same (l1In_q _ _ _ _)))
            go_wp2
            go_ret
            exact ⟨rfl, below_drewN hbw _⟩
          · have H4 := Lib.hid h4
            have RF := Lib.hid (HYk.out (by rw [h3, h4]; rfl))
            clear HFk HYk
            go_wp2_with fail
            go_quiet ((go_at_call 44; exact Calls.quiet_of_same (l1In_q _ _ _ _)))
            go_wp2
            go_roundw
            case rel => exact ⟨k + 1, by omega, by go_num, RF, below_drewN hbw _⟩
            case measure => simp [intOf]; omega
      · have RF := Lib.hid (HFk.out (by unfold pairB; simp [h2]))
        obtain rfl : PB = false := RF.out
        have hd : ((r.length : Int) != 2) = true := by simp; omega
        clear HFk HYk h2 hV
        generalize r.length = rl at *
        go_wp2
        go_quiet (fail)
        go_wp2
        go_ret
        exact ⟨rfl, below_drewN hbw _⟩
    · obtain rfl : k = R.length := by omega
      have RE := Lib.hid (HE.out HP.out)
      obtain rfl : PB = decide (R.length ≤ 20) := RE.out
      clear HE HF HP
      go_wp2
      go_ret
      exact ⟨ret_bool (by simp; omega), hbw⟩
end

section
open Go.RowKit

set_option maxRecDepth 100000 in
set_option maxHeartbeats 4000000 in
theorem swOwn_any (B : Option Addr) (m d : Nat) (rs : List RecD) (w : World) (hy : DatR w B m rs) (hm : m ≤ 1000) (hv : ∀ j, j < m → (rV rs j).length ≤ 1000) :
    Calls Tryz.prog 102 #[.slice B m d] w fun e w' => ∃ E ce, e = .returned (.slice E m ce) ∧ DRs w' w.heap.size E m ce ∧ Below w.heap.size w w' := by
  obtain ⟨i0, hi, hz0, hz1, hz2⟩ := info_parts Tryz.infoRecord
  have HY := Lib.hid hy
  have HV := Lib.hid hv
  clear hy hv
  go_enter Tryz.func102, Tryz.ntmps102
  go_wp2_with fail
  go_loopw [3, 8] (fun a i wr => ∃ (k : Nat) (E : Option Addr) (ce : Nat), k ≤ m ∧ i = .int .i64 k ∧ a = .slice E k ce ∧ DRs wr w.heap.size E k ce ∧ Below w.heap.size w wr) (fun _ i _ => m - (intOf i).toNat)
  case atStart => exact ⟨0, none, 0, Nat.zero_le _, rfl, rfl, DRs.nil_, Below.refl _ _⟩
  case round =>
    obtain ⟨k, E, ce, hk, rfl, rfl, hD, hbw⟩ := hrel
    obtain ⟨wo, rfl⟩ : ∃ wo : World, wo = wr := ⟨_, rfl⟩
    have hz := hbw.size
    by_cases hlt : k < m
    · have hvl := HV.out k hlt
      obtain ⟨ad, rfl, q0, q1, V, mv, cv, q2, hV⟩ := (HY.out.below hbw).r.at_ hlt
      have hmv : mv ≤ 1000 := by have := hV.1; omega
      generalize rA rs k = x at *
      generalize rH rs k = y at *
      generalize rV rs k = xs at *
      have b2 := below_new wo (.cells #[.int .i64 x, .int .i64 y, .slice V mv cv] 53)
      have z2 : wo.heap.size + 1 ≤ (wo.alloc (.cells #[.int .i64 x, .int .i64 y, .slice V mv cv] 53)).heap.size := by simp
      have D2 := Lib.hid (hD.below b2)
      have V2 := Lib.hid (hV.below b2)
      have B2 := Lib.hid (hbw.alloc hz (.cells #[.int .i64 x, .int .i64 y, .slice V mv cv] 53))
      clear hD hV b2 hbw
      go_wp2_with fail
      refine (rOwn_any x y V mv cv xs _ V2.out (by omega)).mono ?_
      rintro e w5 ⟨V5, c5, rfl, o5, b5⟩
      have D5 := D2.out.below b5
      have B5 := Lib.hid (B2.out.trans (b5.mono B2.out.size))
      have z5 := b5.size
      have ov5 : OwnI w5 w.heap.size w5.heap.size V5 mv c5 xs := o5.fit (by omega)
      clear D2 V2 B2 b5 o5
      obtain ⟨ys6, ho6, hr6⟩ := D5.cells
      have HR6 := Lib.hid hr6
      have hrow6 := Lib.hid (fun j (hj : rowOf E = some j) => (row_ge ho6 j hj).1)
      have HV6 := Lib.hid ov5
      clear hr6 D5 ov5
      go_wp2_with (at_builtin; refine wp_appG (cs := #[.int .i64 x, .int .i64 y, .slice V5 mv c5]) rfl _ _ rfl Tryz.underlying25 hi hz0 hz1 hz2 rfl (by omega) (by omega) rfl (by simp [Value.oneCell']) w.heap.size E k ce ys6 rfl ho6 _ rfl (by simp) (by omega) (by omega) ?_; intro A6 c6 w6 own6 grow6 _; have D6 := Lib.hid (DRs.snoc (x := x) (y := y) ho6 HR6.out HV6.out (by omega) grow6 own6); have B6 := Lib.hid (below_write B5.out grow6 B5.out.size hrow6.out))
      go_roundw
      case rel => exact ⟨k + 1, A6, c6, by omega, by go_num, rfl, D6.out, B6.out⟩
      case measure => simp [intOf]; omega
    · obtain rfl : k = m := by omega
      go_wp2
      go_ret
      exact ⟨E, ce, rfl, hD, hbw⟩
end

section
open Go.RowKit

section
variable {w : World} {lo n c k : Nat}
theorem DRs.at_ {A : Option Addr} (h : DRs w lo A n c) (hk : k < n) : ∃ g, A = some ⟨g, 0, none⟩ ∧ lo ≤ g ∧ g < w.heap.size ∧ ∃ (x y : Int) (V : Option Addr) (m cv : Nat) (xs : List Int), w.cell? ⟨g, k * 3, none⟩ = some (.int .i64 x) ∧ w.cell? ⟨g, k * 3 + 1, none⟩ = some (.int .i64 y) ∧ w.cell? ⟨g, k * 3 + 2, none⟩ = some (.slice V m cv) ∧ OwnI w lo w.heap.size V m cv xs ∧ m ≤ 1000 := by
  obtain ⟨ys, ho, h2⟩ := h.cells
  obtain ⟨g, rfl, _, _⟩ := row_head ho (show 0 < n by omega)
  have hl := ho.1
  obtain ⟨x, y, V, m, cv, xs, e0, e1, e2, hv, hm⟩ := h2 k hk
  exact ⟨g, rfl, (row_ge ho g rfl).1, (row_ge ho g rfl).2, x, y, V, m, cv, xs, (World.ownsRow.cellAt ho (k * 3) (by omega)).trans e0, (World.ownsRow.cellAt ho (k * 3 + 1) (by omega)).trans e1, (World.ownsRow.cellAt ho (k * 3 + 2) (by omega)).trans e2, hv, hm⟩
theorem DRs.free {g : Nat} (h : DRs w lo (some ⟨g, 0, none⟩) n c) (j : Nat) : w.frozen? ⟨g, j, none⟩ = false := by
  obtain ⟨ys, ho, _⟩ := h.cells
  exact World.ownsRow.frozenAt ho j
theorem OwnI.farSet {g i : Nat} {V : Option Addr} {mv cv : Nat} {xs : List Int} {v : Value} (h : OwnI w lo w.heap.size V mv cv xs) (hg : rowOf V ≠ some g) : OwnI (w.setCell ⟨g, i, none⟩ v) lo (w.setCell ⟨g, i, none⟩ v).heap.size V mv cv xs := by
  refine OwnI.fit ⟨h.own.keep fun q hA _ => Below.heap_setCell w ⟨g, i, none⟩ v q (fun e => hg (by rw [hA]; simp only [rowOf]; rw [e])), h.top, h.small⟩ (Nat.le_refl _)
/-- A record stored whole. -/
theorem DRs.put {g : Nat} {x y : Int} {V : Option Addr} {mv cv : Nat} {xs : List Int} (h : DRs w lo (some ⟨g, 0, none⟩) n c) (hk : k < n) (hv : OwnI w lo w.heap.size V mv cv xs) (hm : mv ≤ 1000) :
    DRs (((w.setCell ⟨g, k * 3, none⟩ (.int .i64 x)).setCell ⟨g, k * 3 + 1, none⟩ (.int .i64 y)).setCell ⟨g, k * 3 + 2, none⟩ (.slice V mv cv)) lo (some ⟨g, 0, none⟩) n c ∧
    ∀ {V' : Option Addr} {m' c' : Nat} {xs' : List Int}, OwnI w lo w.heap.size V' m' c' xs' → OwnI (((w.setCell ⟨g, k * 3, none⟩ (.int .i64 x)).setCell ⟨g, k * 3 + 1, none⟩ (.int .i64 y)).setCell ⟨g, k * 3 + 2, none⟩ (.slice V mv cv)) lo (((w.setCell ⟨g, k * 3, none⟩ (.int .i64 x)).setCell ⟨g, k * 3 + 1, none⟩ (.int .i64 y)).setCell ⟨g, k * 3 + 2, none⟩ (.slice V mv cv)).heap.size V' m' c' xs' := by
  obtain ⟨ys, ho, h2⟩ := h.cells
  have hl := ho.1
  have far : ∀ {V' : Option Addr} {m' c' : Nat} {xs' : List Int}, OwnI w lo w.heap.size V' m' c' xs' → OwnI (((w.setCell ⟨g, k * 3, none⟩ (.int .i64 x)).setCell ⟨g, k * 3 + 1, none⟩ (.int .i64 y)).setCell ⟨g, k * 3 + 2, none⟩ (.slice V mv cv)) lo (((w.setCell ⟨g, k * 3, none⟩ (.int .i64 x)).setCell ⟨g, k * 3 + 1, none⟩ (.int .i64 y)).setCell ⟨g, k * 3 + 2, none⟩ (.slice V mv cv)).heap.size V' m' c' xs' := fun {V' m' c' xs'} hv' => by
    have hne : rowOf V' ≠ some g := fun e => row_ne2 hv'.own ho (by decide) e rfl
    exact ((hv'.farSet hne).farSet hne).farSet hne
  have a1 := (World.ownsRow.stored ho (k * 3) (.int .i64 x)).1
  have a2 := (World.ownsRow.stored a1 (k * 3 + 1) (.int .i64 y)).1
  have a3 := (World.ownsRow.stored a2 (k * 3 + 2) (.slice V mv cv)).1
  refine ⟨⟨⟨_, a3, fun j hj => ?_⟩⟩, far⟩
  by_cases e : j = k
  · subst e
    refine ⟨x, y, V, mv, cv, xs, ?_, ?_, ?_, far hv, hm⟩
    · rw [List.getElem?_set_ne (by omega), List.getElem?_set_ne (by omega), List.getElem?_set_self (by omega)]
    · rw [List.getElem?_set_ne (by omega), List.getElem?_set_self (by simp; omega)]
    · rw [List.getElem?_set_self (by simp; omega)]
  · obtain ⟨x', y', V', m', cv', xs', e0, e1, e2, hv', hm'⟩ := h2 j hj
    refine ⟨x', y', V', m', cv', xs', ?_, ?_, ?_, far hv', hm'⟩
    · rw [List.getElem?_set_ne (by omega), List.getElem?_set_ne (by omega), List.getElem?_set_ne (by omega)]; exact e0
    · rw [List.getElem?_set_ne (by omega), List.getElem?_set_ne (by omega), List.getElem?_set_ne (by omega)]; exact e1
    · rw [List.getElem?_set_ne (by omega), List.getElem?_set_ne (by omega), List.getElem?_set_ne (by omega)]; exact e2
end
end

section
open Go.RowKit

theorem boxes2 (w : World) (p q : Array Value) (T : TypeId) : (World.drew ((w.alloc (.cells p T)).alloc (.cells q T))).heap[w.heap.size]? = some (.cells p T (0, 0)) ∧ (World.drew ((w.alloc (.cells p T)).alloc (.cells q T))).heap[w.heap.size + 1]? = some (.cells q T (0, 0)) ∧ Below w.heap.size w (World.drew ((w.alloc (.cells p T)).alloc (.cells q T))) := by
  obtain ⟨b, x1, x2⟩ := box_two w p q T T
  exact ⟨x1, x2, b.drew⟩
theorem far3 {w : World} {g i j k q : Nat} {u v t : Value} {o : Obj} (h : w.heap[q]? = some o) (hne : q ≠ g) : (((w.setCell ⟨g, i, none⟩ u).setCell ⟨g, j, none⟩ v).setCell ⟨g, k, none⟩ t).heap[q]? = some o :=
  (Below.heap_setCell _ ⟨g, k, none⟩ t q hne).trans ((Below.heap_setCell _ ⟨g, j, none⟩ v q hne).trans ((Below.heap_setCell _ ⟨g, i, none⟩ u q hne).trans h))
theorem cell3 {w : World} {g i j k : Nat} {p : Addr} {u v t v' : Value} (h : w.cell? p = some v') (hne : p.block ≠ g) : (World.drew (((w.setCell ⟨g, i, none⟩ u).setCell ⟨g, j, none⟩ v).setCell ⟨g, k, none⟩ t)).cell? p = some v' := by
  rw [World.cell?_of_block (w := w) (w' := World.drew (((w.setCell ⟨g, i, none⟩ u).setCell ⟨g, j, none⟩ v).setCell ⟨g, k, none⟩ t)) (a := p) ?_]
  · exact h
  · show (((w.setCell ⟨g, i, none⟩ u).setCell ⟨g, j, none⟩ v).setCell ⟨g, k, none⟩ t).heap[p.block]? = _
    rw [Below.heap_setCell _ ⟨g, k, none⟩ t p.block hne, Below.heap_setCell _ ⟨g, j, none⟩ v p.block hne, Below.heap_setCell _ ⟨g, i, none⟩ u p.block hne]
theorem below3 {w0 w : World} {B g i j k : Nat} {u v t : Value} (h : Below B w0 w) (hg : B ≤ g) : Below B w0 (((w.setCell ⟨g, i, none⟩ u).setCell ⟨g, j, none⟩ v).setCell ⟨g, k, none⟩ t) := ((h.setCell (by exact hg) _).setCell (by exact hg) _).setCell (by exact hg) _

set_option maxRecDepth 100000 in
set_option maxHeartbeats 4000000 in
theorem swApply_any (B P : Option Addr) (m d cp : Nat) (rs : List RecD) (R : List (List Int)) (w : World) (hy : DatR w B m rs) (hm : m ≤ 1000) (hv : ∀ j, j < m → (rV rs j).length ≤ 1000) (hr : IntsS w P R.length (fun t => R[t]?.getD [])) (hl : R.length ≤ 20) (hp : ∀ k, k < R.length → ∃ a b : Nat, R[k]?.getD [] = [(a : Int), (b : Int)] ∧ a < b ∧ b < m) :
    Calls Tryz.prog 88 #[.slice B m d, .slice P R.length cp] w fun e w' => ∃ E ce, e = .returned (.slice E m ce) ∧ DRs w' w.heap.size E m ce ∧ Below w.heap.size w w' := by
  have HR := Lib.hid hr
  have HP := Lib.hid hp
  clear hr hp
  go_enter Tryz.func88, Tryz.ntmps88
  go_wp2_with fail
  refine (swOwn_any B m d rs _ hy hm hv).mono ?_
  rintro e w1 ⟨E, ce, rfl, o1, b1⟩
  clear hy hv
  go_wp2_with fail
  go_loopw [14] (fun i wr => ∃ (k : Nat), k ≤ R.length ∧ i = .int .i64 k ∧ DRs wr w.heap.size E m ce ∧ Below w.heap.size w wr) (fun i _ => R.length - (intOf i).toNat)
  case atStart => exact ⟨0, Nat.zero_le _, rfl, o1, b1⟩
  case round =>
    clear o1 b1
    obtain ⟨k, hk, rfl, hD, hbw⟩ := hrel
    by_cases hlt : k < R.length
    · obtain ⟨ad, rfl, Vp, cc, q5, hV⟩ := HR.out.at_ hlt
      obtain ⟨a, b, hab, hab1, hbm⟩ := HP.out k hlt
      simp only [hab] at q5 hV
      clear hab
      obtain ⟨ad6, rfl, p0⟩ := hV.at_ (show 0 < [(a : Int), (b : Int)].length by simp)
      obtain ⟨ad6', e6, p1⟩ := hV.at_ (show 1 < [(a : Int), (b : Int)].length by simp)
      simp only [Option.some.injEq] at e6
      subst e6
      replace q5 : w.cell? (ad.add k) = some (.slice (some ad6) 2 cc) := q5
      have p00 : w.cell? ad6 = some (.int .i64 a) := by have := p0; simpa [Addr.add] using this
      have p11 : w.cell? { block := ad6.block, off := ad6.off + 1, spot := none } = some (.int .i64 b) := by have := p1; simpa [Addr.add] using this
      clear hV p0 p1
      have n0 : ad6.block < w.heap.size := block_lt_of_cell p00
      replace q5 := (hbw.cell (block_lt_of_cell q5)).trans q5
      replace p00 := (hbw.cell (block_lt_of_cell p00)).trans p00
      replace p11 := (hbw.cell (block_lt_of_cell p11)).trans p11
      have ham : a < m := by omega
      obtain ⟨g, rfl, hg0, hg1, x1, y1, V1, m1, c1, xs1, a0, a1, a2, ov1, hm1⟩ := hD.at_ ham
      obtain ⟨g', e7, _, _, x2, y2, V2, m2, c2, xs2, b0, b1, b2, ov2, hm2⟩ := hD.at_ hbm
      simp only [Option.some.injEq, Addr.mk.injEq, and_true] at e7
      subst e7
      have ham' : (a : Int) < (m : Int) := by omega
      have hbm' : (b : Int) < (m : Int) := by omega
      have HD := Lib.hid hD
      have HO1 := Lib.hid ov1
      have HO2 := Lib.hid ov2
      have HB := Lib.hid hbw
      have hsz := hbw.size
      clear hD ov1 ov2 hbw
      have n1 : ad6.block < wr.heap.size := by omega
      have n2 : ad6.block ≠ wr.heap.size := by omega
      have n3 : ad6.block ≠ wr.heap.size + 1 := by omega
      have n4 : g ≠ wr.heap.size := by omega
      have n5 : g ≠ wr.heap.size + 1 := by omega
      have n6 : ad6.block ≠ g := by omega
      go_wp2_with fail
      go_cut [8, 9] from 15 to 54 (fun v8 v9 wx => ∃ ga gb, v8 = .pointer (some ⟨ga, 0, none⟩) ∧ v9 = .pointer (some ⟨gb, 0, none⟩) ∧ wx.heap[ga]? = some (.cells #[.int .i64 x1, .int .i64 y1, .slice V1 m1 c1] 53 (0, 0)) ∧ wx.heap[gb]? = some (.cells #[.int .i64 x2, .int .i64 y2, .slice V2 m2 c2] 53 (0, 0)) ∧ wr.heap.size ≤ ga ∧ wr.heap.size ≤ gb ∧ Below wr.heap.size wr wx)
      case first =>
        go_region_held3 (fun w' => w'.cell? ad6 = some (.int .i64 a) ∧ w'.cell? { block := ad6.block, off := ad6.off + 1, spot := none } = some (.int .i64 b) ∧ w'.cell? ⟨g, a * 3, none⟩ = some (.int .i64 x1) ∧ w'.cell? ⟨g, a * 3 + 1, none⟩ = some (.int .i64 y1) ∧ w'.cell? ⟨g, a * 3 + 2, none⟩ = some (.slice V1 m1 c1) ∧ w'.cell? ⟨g, b * 3, none⟩ = some (.int .i64 x2) ∧ w'.cell? ⟨g, b * 3 + 1, none⟩ = some (.int .i64 y2) ∧ w'.cell? ⟨g, b * 3 + 2, none⟩ = some (.slice V2 m2 c2)) (go_keep) (fail)
        · go_wp2_with fail
          go_meet
          exact ⟨_, _, rfl, rfl, (boxes2 wr _ _ _).1, (boxes2 wr _ _ _).2.1, Nat.le_refl _, Nat.le_succ _, (boxes2 wr _ _ _).2.2⟩
        · go_wp2_with fail
          go_meet
          exact ⟨_, _, rfl, rfl, (boxes2 wr _ _ _).2.1, (boxes2 wr _ _ _).1, Nat.le_succ _, Nat.le_refl _, (boxes2 wr _ _ _).2.2⟩
      case rest =>
        obtain ⟨ga, gb, rfl, rfl, xa, xb, hga, hgb, bwc⟩ := hcut
        obtain ⟨wb, rfl⟩ : ∃ wb : World, wb = wc := ⟨_, rfl⟩
        have hszb := bwc.size
        have m1' : ga ≠ g := by omega
        have m2' : gb ≠ g := by omega
        replace p00 := (bwc.cell n1).trans p00
        replace p11 := (bwc.cell (p := { block := ad6.block, off := ad6.off + 1, spot := none }) n1).trans p11
        replace a0 := (bwc.cell (p := ⟨g, a * 3, none⟩) hg1).trans a0
        replace a1 := (bwc.cell (p := ⟨g, a * 3 + 1, none⟩) hg1).trans a1
        replace a2 := (bwc.cell (p := ⟨g, a * 3 + 2, none⟩) hg1).trans a2
        replace b0 := (bwc.cell (p := ⟨g, b * 3, none⟩) hg1).trans b0
        replace b1 := (bwc.cell (p := ⟨g, b * 3 + 1, none⟩) hg1).trans b1
        replace b2 := (bwc.cell (p := ⟨g, b * 3 + 2, none⟩) hg1).trans b2
        have D1 := HD.out.below bwc
        have HDb := Lib.hid D1
        have HO1b := Lib.hid ((HO1.out.below bwc).fit (Nat.le_refl _))
        have HO2b := Lib.hid ((HO2.out.below bwc).fit (Nat.le_refl _))
        have HBb := Lib.hid (HB.out.trans (bwc.mono hsz))
        have f0 := D1.free (a * 3)
        have f1 := D1.free (a * 3 + 1)
        have f2 := D1.free (a * 3 + 2)
        have za0 := box_cell xa 0 _ rfl
        have za1 := box_cell xa 1 _ rfl
        have za2 := box_cell xa 2 _ rfl
        have zb0 := box_cell xb 0 _ rfl
        have zb1 := box_cell xb 1 _ rfl
        have zb2 := box_cell xb 2 _ rfl
        have HXa := Lib.hid xa
        have HXb := Lib.hid xb
        clear D1 HD HO1 HO2 HB bwc xa xb n2 n3 n4 n5 q5
        go_wp2_with fail
        go_cut [8, 9] from 15 to 54 (fun v8 v9 wx => v8 = .pointer (some ⟨ga, 0, none⟩) ∧ v9 = .pointer (some ⟨gb, 0, none⟩) ∧ wx = World.drew (((wb.setCell ⟨g, a * 3, none⟩ (.int .i64 x2)).setCell ⟨g, a * 3 + 1, none⟩ (.int .i64 y2)).setCell ⟨g, a * 3 + 2, none⟩ (.slice V1 m1 c1)))
        case first =>
          go_region_held3 (fun w' => w'.cell? ad6 = some (.int .i64 a) ∧ w'.cell? ⟨gb, 0, none⟩ = some (.int .i64 x2) ∧ w'.cell? ⟨gb, 1, none⟩ = some (.int .i64 y2) ∧ w'.cell? ⟨ga, 2, none⟩ = some (.slice V1 m1 c1)) (first | exact ⟨p00, zb0, zb1, za2⟩ | exact ⟨cell3 p00 n6, cell3 zb0 m2', cell3 zb1 m2', cell3 za2 m1'⟩ | go_keep) (fail)
          go_wp2_with fail
          go_meet
          exact ⟨rfl, rfl, rfl⟩
        case rest =>
          obtain ⟨rfl, rfl, hwc⟩ := hcut
          obtain ⟨PD, PO⟩ := HDb.out.put (k := a) (x := x2) (y := y2) ham HO1b.out hm1
          have D2 : DRs wc w.heap.size (some ⟨g, 0, none⟩) m ce := by rw [hwc]; exact PD.below (below_drewN (Below.refl _ _) 1)
          have O2 : OwnI wc w.heap.size wc.heap.size V2 m2 c2 xs2 := by rw [hwc]; exact ((PO HO2b.out).below (below_drewN (Below.refl _ _) 1)).fit (Nat.le_refl _)
          have B2 : Below w.heap.size w wc := by rw [hwc]; exact (below3 HBb.out hg0).drew
          have p11' : wc.cell? { block := ad6.block, off := ad6.off + 1, spot := none } = some (.int .i64 b) := by rw [hwc]; exact cell3 p11 n6
          have za0' : wc.cell? ⟨ga, 0, none⟩ = some (.int .i64 x1) := by rw [hwc]; exact cell3 za0 m1'
          have za1' : wc.cell? ⟨ga, 1, none⟩ = some (.int .i64 y1) := by rw [hwc]; exact cell3 za1 m1'
          have zb2' : wc.cell? ⟨gb, 2, none⟩ = some (.slice V2 m2 c2) := by rw [hwc]; exact cell3 zb2 m2'
          clear hwc PD PO HDb HO1b HO2b HBb HXa HXb p00 p11 a0 a1 a2 b0 b1 b2 f0 f1 f2 za0 za1 za2 zb0 zb1 zb2 hszb hsz n1 hga hgb
          obtain ⟨g', e7, _, _, _, _, _, _, _, _, b0, b1, b2, _, _⟩ := D2.at_ hbm
          simp only [Option.some.injEq, Addr.mk.injEq, and_true] at e7
          subst e7
          have f0 := D2.free (b * 3)
          have f1 := D2.free (b * 3 + 1)
          have f2 := D2.free (b * 3 + 2)
          have D3 := Lib.hid (DRs.below (D2.put (k := b) (x := x1) (y := y1) hbm O2 hm2).1 (below_drewN (Below.refl _ _) 1))
          have B3 := Lib.hid ((below3 (i := b * 3) (j := b * 3 + 1) (k := b * 3 + 2) (u := .int .i64 x1) (v := .int .i64 y1) (t := .slice V2 m2 c2) B2 hg0).drew)
          clear D2 O2 B2
          go_wp2_with fail
          go_region_held3 (fun w' => w'.cell? { block := ad6.block, off := ad6.off + 1, spot := none } = some (.int .i64 b) ∧ w'.cell? ⟨ga, 0, none⟩ = some (.int .i64 x1) ∧ w'.cell? ⟨ga, 1, none⟩ = some (.int .i64 y1) ∧ w'.cell? ⟨gb, 2, none⟩ = some (.slice V2 m2 c2)) (first | exact ⟨p11', za0', za1', zb2'⟩ | exact ⟨cell3 p11' n6, cell3 za0' m1', cell3 za1' m1', cell3 zb2' m2'⟩ | go_keep) (fail)
          go_wp2
          go_roundw
          case rel => exact ⟨k + 1, by omega, by go_num, D3.out, B3.out⟩
          case measure => simp [intOf]; omega
    · obtain rfl : k = R.length := by omega
      go_wp2
      go_ret
      exact ⟨E, ce, rfl, hD, hbw⟩
end

section
open Go.RowKit

theorem din_vals {vs : List (ByteArray × Int)} {rs : List RecD} {j : Nat} (h : dinB vs rs = true) (hj : j < rs.length) : (rV rs j).length ≤ 1000 := by
  unfold dinB at h
  simp only [Bool.and_eq_true] at h
  have h1 := (dataB_of h.2).2 j hj
  have h2 := h.1
  unfold schB at h2
  simp only [Bool.and_eq_true] at h2
  have h3 := inR_of h2.1
  unfold recOk recB valsB at h1
  simp only [Bool.and_eq_true, decide_eq_true_eq] at h1
  have := h1.2.2.1
  omega

set_option maxRecDepth 100000 in
set_option maxHeartbeats 2000000 in
theorem applySwaps_any (A B P : Option Addr) (n c m d cp : Nat) (vs : List (ByteArray × Int)) (rs : List RecD) (R : List (List Int)) (w : World) (hx : SchR w A n c vs) (hy : DatR w B m rs) (hr : IntsS w P R.length (fun t => R[t]?.getD [])) (hl : R.length ≤ 1099511627776) (hm : m ≤ 41) :
    Calls Tryz.prog 72 #[.slice A n c, .slice B m d, .slice P R.length cp] w fun e w' => ∃ C m2 d2 b, e = .returned (.tuple #[.slice C m2 d2, .bool b]) ∧ m2 ≤ 41 ∧ DRs w' w.heap.size C m2 d2 ∧ Below w.heap.size w w' := by
  have hml := hy.len
  cases hB : dinB vs rs
  · have HB := Lib.hid hB
    clear hB hml
    go_enter Tryz.func72, Tryz.ntmps72
    go_wp2_with fail
    refine (dInput_any _ _ n _ m _ vs rs _ hx hy).mono ?_
    rintro e w1 ⟨rfl, b1⟩
    rw [HB.out]
    have B1 := Lib.hid b1
    clear b1 hx hy hr
    go_wp2
    go_ret2
    exact ⟨none, 0, 0, false, rfl, by omega, DRs.nil_, B1.out⟩
  · have HB := Lib.hid hB
    have HV := Lib.hid (fun (j : Nat) (hj : j < m) => din_vals (j := j) hB (by omega))
    cases hP : pairsB R m
    · have HP := Lib.hid hP
      clear hB hml hP
      go_enter Tryz.func72, Tryz.ntmps72
      go_wp2_with fail
      refine (dInput_any _ _ n _ m _ vs rs _ hx hy).mono ?_
      rintro e w1 ⟨rfl, b1⟩
      rw [HB.out]
      go_wp2_with fail
      refine (swPairs_any _ _ m R _ (hr.below b1) hl (by omega)).mono ?_
      rintro e w2 ⟨rfl, b2⟩
      rw [HP.out]
      have B2 := Lib.hid (b1.trans (b2.mono b1.size))
      clear b1 b2 hx hy hr
      go_wp2
      go_ret2
      exact ⟨none, 0, 0, false, rfl, by omega, DRs.nil_, B2.out⟩
    · have HP := Lib.hid hP
      have HL := Lib.hid (pairsB_of hP)
      clear hB hml hP
      go_enter Tryz.func72, Tryz.ntmps72
      go_wp2_with fail
      refine (dInput_any _ _ n _ m _ vs rs _ hx hy).mono ?_
      rintro e w1 ⟨rfl, b1⟩
      rw [HB.out]
      go_wp2_with fail
      refine (swPairs_any _ _ m R _ (hr.below b1) hl (by omega)).mono ?_
      rintro e w2 ⟨rfl, b2⟩
      rw [HP.out]
      have b3 := b1.trans (b2.mono b1.size)
      clear b1 b2
      go_wp2_with fail
      refine (swApply_any B P m _ _ rs R _ (hy.below b3) (by omega) HV.out (hr.below b3) HL.out.1 HL.out.2).mono ?_
      rintro e w4 ⟨E, ce, rfl, o4, b4⟩
      have B4 := Lib.hid (b3.trans (b4.mono b3.size))
      have O4 := Lib.hid (o4.mono b3.size)
      clear b3 b4 o4 hx hy hr
      go_wp2
      go_ret2
      exact ⟨E, m, ce, true, rfl, hm, O4.out, B4.out⟩
end

section
open Go.RowKit

def DMv (w : World) (e : Ending) (w' : World) : Prop := ∃ (A1 : Option Addr) (n1 c1 : Nat) (vs : List (ByteArray × Int)) (B : Option Addr) (m d : Nat) (C : Option Addr) (m2 d2 : Nat), e = .returned (.tuple #[.slice A1 n1 c1, .slice B m d, .slice C m2 d2]) ∧ n1 ≤ 8 ∧ DVr w' w.heap.size A1 n1 c1 vs ∧ m ≤ 41 ∧ DRs w' w.heap.size B m d ∧ m2 ≤ 41 ∧ DRs w' w.heap.size C m2 d2 ∧ Below w.heap.size w w'
set_option maxRecDepth 100000 in
set_option maxHeartbeats 4000000 in
theorem drawMovedRecords_any (A : Option Addr) (n c : Nat) (w : World) (hb : Byt w A n) (hn : n ≤ 9223372036854775807) :
    Calls Tryz.prog 52 #[.slice A n c] w (DMv w) := by
  have xc := box_new w #[.slice A n c, .int .i64 0, .int .u64 0] 59
  have b0 := below_new w (.cells #[.slice A n c, .int .i64 0, .int .u64 0] 59)
  have S := Lib.hid (show (w.alloc (.cells #[.slice A n c, .int .i64 0, .int .u64 0] 59)).heap.size = w.heap.size + 1 by simp)
  have hc0 : Cur _ w.heap.size 0 := cur_new2 xc (by omega) hb (fun b hb => b0.block b hb) hn
  have hb0 := hb.below b0
  clear xc
  go_enter Tryz.func52, Tryz.ntmps52
  go_wp2_with fail
  generalize w.alloc (.cells #[.slice A n c, .int .i64 0, .int .u64 0] 59) = w0 at *
  refine (drawApplySwaps_any _ _ _ _ hb0 hn).mono ?_
  rintro e w1 ⟨A1, n1, c1, vs, B, m, d, P, R, cp, rfl, hn1, od, hm, or_, op, b1⟩
  have s0 : w.heap.size + 1 ≤ w0.heap.size := by have := S.out; omega
  have hc1 := hc0.below b1
  have B1 := b0.trans (b1.mono (by omega))
  have z1 := b1.size
  clear hb0 hc0 b0 b1
  obtain ⟨rs, hrs⟩ := or_.recs (by omega)
  go_wp2_with fail
  refine (applySwaps_any _ _ _ n1 _ m _ _ vs rs R w1 (od.sch (by omega)) hrs op.read op.small hm).mono ?_
  rintro e w2 ⟨C, m2, d2, b, rfl, hm2, oc, b2⟩
  clear hrs op
  replace od := (od.below b2).mono (show w.heap.size + 1 ≤ _ by omega)
  replace or_ := (or_.below b2).mono (show w.heap.size + 1 ≤ _ by omega)
  replace oc := oc.mono (show w.heap.size + 1 ≤ _ by omega)
  have hc2 := hc1.below b2
  have B2 := B1.trans (b2.mono B1.size)
  have z2 := b2.size
  clear hc1 B1 b2
  cases b
  · clear oc
    go_wp2_with fail
    refine (anyData_any _ _ _ n1 _ _ vs _ hc2 (by omega) od (by omega) hn1).mono ?_
    rintro e w4 ⟨Q, mq, cq, rfl, hmq, oq, _, hg4⟩
    have HD := Lib.hid ((od.chg hg4 (by omega)).mono (show w.heap.size ≤ _ by omega))
    have HR := Lib.hid ((or_.chg hg4 (by omega)).mono (show w.heap.size ≤ _ by omega))
    have HP := Lib.hid (oq.mono (show w.heap.size ≤ _ by omega))
    have HB := Lib.hid (Chg.to_below (Nat.le_refl _) ((Chg.of_below (lo := w.heap.size) (hi := w.heap.size + 1) B2).trans hg4))
    clear od or_ oq hg4 hc2
    go_wp2
    exact bodyPost_ret (v := .tuple #[.slice A1 n1 c1, .slice B m d, .slice Q mq cq]) (by simp [results, Tryz.results52, go_sem]) rfl ⟨A1, n1, c1, vs, B, m, d, Q, mq, cq, rfl, hn1, HD.out, hm, HR.out, hmq, HP.out, HB.out⟩
  · go_wp2_with fail
    refine (one_any _ _ 6 _ hc2 (by omega) (by omega)).mono ?_
    rintro e w3 ⟨b, rfl, hc3, hg3⟩
    replace od := od.chg hg3 (by omega)
    replace or_ := or_.chg hg3 (by omega)
    replace oc := oc.chg hg3 (by omega)
    have z3 := hg3.size
    clear hc2
    cases b
    · have HD := Lib.hid (od.mono (show w.heap.size ≤ _ by omega))
      have HR := Lib.hid (or_.mono (show w.heap.size ≤ _ by omega))
      have HP := Lib.hid (oc.mono (show w.heap.size ≤ _ by omega))
      have HB := Lib.hid (Chg.to_below (Nat.le_refl _) ((Chg.of_below (lo := w.heap.size) (hi := w.heap.size + 1) B2).trans hg3))
      clear od or_ oc hg3 hc3
      go_wp2
      exact bodyPost_ret (v := .tuple #[.slice A1 n1 c1, .slice B m d, .slice C m2 d2]) (by simp [results, Tryz.results52, go_sem]) rfl ⟨A1, n1, c1, vs, B, m, d, C, m2, d2, rfl, hn1, HD.out, hm, HR.out, hm2, HP.out, HB.out⟩
    · clear oc
      go_wp2_with fail
      refine (anyData_any _ _ _ n1 _ _ vs _ hc3 (by omega) od (by omega) hn1).mono ?_
      rintro e w4 ⟨Q, mq, cq, rfl, hmq, oq, _, hg4⟩
      have HD := Lib.hid ((od.chg hg4 (by omega)).mono (show w.heap.size ≤ _ by omega))
      have HR := Lib.hid ((or_.chg hg4 (by omega)).mono (show w.heap.size ≤ _ by omega))
      have HP := Lib.hid (oq.mono (show w.heap.size ≤ _ by omega))
      have HB := Lib.hid (Chg.to_below (Nat.le_refl _) ((Chg.of_below (lo := w.heap.size) (hi := w.heap.size + 1) B2).trans (hg3.trans hg4)))
      clear od or_ oq hg4 hc3
      go_wp2
      exact bodyPost_ret (v := .tuple #[.slice A1 n1 c1, .slice B m d, .slice Q mq cq]) (by simp [results, Tryz.results52, go_sem]) rfl ⟨A1, n1, c1, vs, B, m, d, Q, mq, cq, rfl, hn1, HD.out, hm, HR.out, hmq, HP.out, HB.out⟩

def DLk (w : World) (e : Ending) (w' : World) : Prop := ∃ (A1 : Option Addr) (n1 c1 : Nat) (vs : List (ByteArray × Int)) (B : Option Addr) (m d : Nat) (C : Option Addr) (m2 d2 : Nat) (U : Option Addr) (l k : Nat) (us : List Int), e = .returned (.tuple #[.slice A1 n1 c1, .slice B m d, .slice C m2 d2, .slice U l k]) ∧ n1 ≤ 8 ∧ DVr w' w.heap.size A1 n1 c1 vs ∧ m ≤ 41 ∧ DRs w' w.heap.size B m d ∧ m2 ≤ 41 ∧ DRs w' w.heap.size C m2 d2 ∧ l ≤ 9 ∧ OwnI w' w.heap.size w'.heap.size U l k us ∧ Below w.heap.size w w'
set_option maxRecDepth 100000 in
set_option maxHeartbeats 4000000 in
theorem drawLinkSets_any (A : Option Addr) (n c : Nat) (w : World) (hb : Byt w A n) (hn : n ≤ 9223372036854775807) :
    Calls Tryz.prog 20 #[.slice A n c] w (DLk w) := by
  have xc := box_new w #[.slice A n c, .int .i64 0, .int .u64 0] 59
  have b0 := below_new w (.cells #[.slice A n c, .int .i64 0, .int .u64 0] 59)
  have S := Lib.hid (show (w.alloc (.cells #[.slice A n c, .int .i64 0, .int .u64 0] 59)).heap.size = w.heap.size + 1 by simp)
  have hc0 : Cur _ w.heap.size 0 := cur_new2 xc (by omega) hb (fun b hb => b0.block b hb) hn
  have hb0 := hb.below b0
  clear xc
  go_enter Tryz.func20, Tryz.ntmps20
  go_wp2_with fail
  generalize w.alloc (.cells #[.slice A n c, .int .i64 0, .int .u64 0] 59) = w0 at *
  refine (drawMovedRecords_any _ _ _ _ hb0 hn).mono ?_
  rintro e w1 ⟨A1, n1, c1, vs, B, m, d, C, m2, d2, rfl, hn1, od, hm, or_, hm2, oc, b1⟩
  have s0 : w.heap.size + 1 ≤ w0.heap.size := by have := S.out; omega
  have hc1 := hc0.below b1
  have B1 := b0.trans (b1.mono (by omega))
  have z1 := b1.size
  clear hb0 hc0 b0 b1
  replace od := od.mono (show w.heap.size + 1 ≤ _ by omega)
  replace or_ := or_.mono (show w.heap.size + 1 ≤ _ by omega)
  replace oc := oc.mono (show w.heap.size + 1 ≤ _ by omega)
  go_wp2_with fail
  refine (fixed_any _ _ _ n1 _ _ vs _ hc1 (by omega) od (by omega) hn1).mono ?_
  rintro e w4 ⟨U, l, k, us, rfl, hl, ou, _, hg4⟩
  have HD := Lib.hid ((od.chg hg4 (by omega)).mono (show w.heap.size ≤ _ by omega))
  have HR := Lib.hid ((or_.chg hg4 (by omega)).mono (show w.heap.size ≤ _ by omega))
  have HC := Lib.hid ((oc.chg hg4 (by omega)).mono (show w.heap.size ≤ _ by omega))
  have HU := Lib.hid (ou.fit (show w.heap.size ≤ _ by omega))
  have HB := Lib.hid (Chg.to_below (Nat.le_refl _) ((Chg.of_below (lo := w.heap.size) (hi := w.heap.size + 1) B1).trans hg4))
  clear od or_ oc ou hg4 hc1
  go_wp2
  exact bodyPost_ret (v := .tuple #[.slice A1 n1 c1, .slice B m d, .slice C m2 d2, .slice U l k]) (by simp [results, Tryz.results20, go_sem]) rfl ⟨A1, n1, c1, vs, B, m, d, C, m2, d2, U, l, k, us, rfl, hn1, HD.out, hm, HR.out, hm2, HC.out, hl, HU.out, HB.out⟩
end
end Go.Proofs.YtgeilnkglbcmeaaGreat
