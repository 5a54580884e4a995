/- ShuffleWith, of the reference and of the program. -/
import Derived.Test.YtgeilnkglbcmeaaGreatZn
namespace Go.Proofs.YtgeilnkglbcmeaaGreat
open Go.RowKit

/-- Element k and element i exchanged. -/
def swapL (l : List Int) (k i : Nat) : List Int := (l.set k (l[i]?.getD 0)).set i (l[k]?.getD 0)
theorem swapL_len (l : List Int) (k i : Nat) : (swapL l k i).length = l.length := by simp [swapL]
/-- The shuffle's rounds from k down. -/
def shufT (s : Int) : Nat → List Int → Int → Option (List Int × Int)
  | 0, l, a => some (l, a)
  | k + 1, l, a => match belowM s (((k + 2 : Nat)) : Int) a with
    | none => none
    | some (i, a') => shufT s k (swapL l (k + 1) i.toNat) a'
theorem shufT_none {s a : Int} {k : Nat} {l : List Int} (h : belowM s (((k + 2 : Nat)) : Int) a = none) : shufT s (k + 1) l a = none := by simp only [shufT, h]
theorem shufT_some {s a i a' : Int} {k : Nat} {l : List Int} (h : belowM s (((k + 2 : Nat)) : Int) a = some (i, a')) : shufT s (k + 1) l a = shufT s k (swapL l (k + 1) i.toNat) a' := by simp only [shufT, h]
/-- 0, 1, .., n - 1. -/
def iota (n : Nat) : List Int := tabl n fun i => (i : Int)
/-- ShuffleWith's answer. -/
def shufR (s a n : Int) : Option (List Int × Int) := if streamB s a = true ∧ inR n 0 60 = true then shufT s (n.toNat - 1) (iota n.toNat) a else none
theorem shufR_1 {s a n : Int} (h : streamB s a = false) : shufR s a n = none := by unfold shufR; rw [if_neg (by simp [h])]
theorem shufR_2 {s a n : Int} (h : inR n 0 60 = false) : shufR s a n = none := by unfold shufR; rw [if_neg (by simp [h])]
theorem shufR_3 {s a n : Int} (h1 : streamB s a = true) (h : inR n 0 60 = true) : shufR s a n = shufT s (n.toNat - 1) (iota n.toNat) a := by unfold shufR; rw [if_pos ⟨h1, h⟩]
theorem OwnI.set {w : World} {lo hi g n c k : Nat} {xs : List Int} {x : Int} (h : OwnI w lo hi (some ⟨g, 0, none⟩) n c xs) : OwnI (w.setCell ⟨g, k, none⟩ (.int .i64 x)) lo hi (some ⟨g, 0, none⟩) n c (xs.set k x) := ⟨h.own.set, h.top, h.small⟩
theorem OwnI.drewN {w : World} {lo hi : Nat} {A : Option Addr} {n c : Nat} {xs : List Int} (h : OwnI w lo hi A n c xs) (q : Nat) : OwnI (w.drewN q) lo hi A n c xs := ⟨h.own, h.top, h.small⟩

theorem Chg.setNew {lo hi : Nat} {a b : World} (h : Chg lo hi a b) {p : Addr} (hp : a.heap.size ≤ p.block) (v : Value) : Chg lo hi a (b.setCell p v) :=
  ⟨h.os, h.tape, h.output, by simpa [World.setCell] using h.size, fun k hk ho => (Below.heap_setCell b p v k (by omega)).trans (h.block k hk ho)⟩
theorem Chg.grown {lo hi : Nat} {a b c : World} {A : Option Addr} (h : Chg lo hi a b) (hg : b.grownBy c (rowOf A)) (hr : ∀ k, rowOf A = some k → a.heap.size ≤ k) : Chg lo hi a c :=
  ⟨hg.os.trans h.os, hg.tape.trans h.tape, hg.output.trans h.output, Nat.le_trans h.size hg.size, fun k hk ho => (hg.block k (Nat.lt_of_lt_of_le hk h.size) (fun e => by have := hr k e.symm; omega)).trans (h.block k hk ho)⟩
theorem box_grown {w w' : World} {A : Option Addr} {g : Nat} {o : Obj} (h : w.heap[g]? = some o) (hg : w.grownBy w' (rowOf A)) (hr : ∀ k, rowOf A = some k → g < k) : w'.heap[g]? = some o :=
  (hg.block g (lt_of_block h) (fun e => by have := hr g e.symm; omega)).trans h

set_option maxRecDepth 100000 in
set_option maxHeartbeats 4000000 in
theorem kshuffle_any (g : Nat) (s a : Int) (m : Nat) (w : World) (h : RdrAt w g s a true) (h0 : 0 ≤ a) (h1 : a ≤ 1000000) (hm : m ≤ 60) :
    Calls Tryz.prog 110 #[.pointer (some ⟨g, 0, none⟩), .int .i64 m] w fun e w' => ∃ A c l b ok, e = .returned (.slice A m c) ∧ OwnI w' w.heap.size w'.heap.size A m c l ∧ RdrAt w' g s b ok ∧
      ((ok = true ∧ shufT s (m - 1) (iota m) a = some (l, b)) ∨ (ok = false ∧ shufT s (m - 1) (iota m) a = none)) ∧ Chg g (g + 1) w w' := by
  have hgl := h.lt
  obtain ⟨RR, hRR⟩ : ∃ RR, shufT s (m - 1) (iota m) a = RR := ⟨_, rfl⟩
  rw [hRR]
  have R0 := Lib.hid hRR.symm
  clear hRR
  go_enter Tryz.func110, Tryz.ntmps110
  go_wp2
  go_loopw [5, 6] (fun v i wr => ∃ (k : Nat) (A : Option Addr) (c : Nat), k ≤ m ∧ i = .int .i64 k ∧ v = .slice A k c ∧ Own wr w.heap.size A k c (tabl k fun i => (i : Int)) ∧ Below w.heap.size w wr) (fun _ i _ => m - (intOf i).toNat)
  case atStart => exact ⟨0, none, 0, Nat.zero_le _, rfl, rfl, Own.nil_, Below.refl _ _⟩
  case round =>
    obtain ⟨k, A, c, hk, rfl, rfl, hown, hbw⟩ := hrel
    have hsz := hbw.size
    by_cases hlt : k < m
    · have E := Lib.hid (tabl_succ k fun i => (i : Int))
      go_wp2_with (at_builtin; refine wp_app1 rfl _ _ rfl w.heap.size A k c _ rfl hown _ rfl rfl (by omega) hsz ?_; intro A2 c2 w2 hown2 hg2 _)
      have hb2 := below_write hbw hg2 hsz (fun k hk => (hown.row_ge k hk).1)
      rw [← E.out] at hown2
      clear hown hbw hg2
      go_wp2
      go_roundw
      case rel => exact ⟨k + 1, A2, c2, by omega, by go_num, rfl, hown2, hb2⟩
      case measure => simp [intOf]; omega
    · obtain rfl : m = k := by omega
      have hown' : Own wr w.heap.size A m c (iota m) := hown
      clear hown
      have hr := h.below hbw
      have hcg : Chg g (g + 1) w wr := Chg.of_below hbw
      have hkd : decide ((m : Int) < m) = false := decide_eq_false (by omega)
      go_wp2
      clear hkd
      go_loopw [7] (fun i w3 => ∃ (k : Nat) (l : List Int) (b v : Int) (ok : Bool), k ≤ m - 1 ∧ i = .int .i64 v ∧ Hid (v = k ∨ (v = -1 ∧ k = 0)) ∧ OwnI w3 w.heap.size w3.heap.size A m c l ∧ RdrAt w3 g s b ok ∧ 0 ≤ b ∧ b ≤ 1000000 ∧ Hid ((ok = true ∧ RR = shufT s k l b) ∨ (ok = false ∧ RR = none)) ∧ Chg g (g + 1) w w3) (fun i _ => (intOf i).toNat)
      case atStart => exact ⟨m - 1, iota m, a, (m : Int) - 1, true, Nat.le_refl _, rfl, Lib.hid (by omega), OwnI.of_own hown' (by omega), hr, h0, h1, Lib.hid (.inl ⟨rfl, R0.out⟩), hcg⟩
      case round =>
        clear hown' hr hcg hbw R0 hsz h
        obtain ⟨k, l, b, v, ok, hk, rfl, hki, hown, hr, hb0, hb1, hst, hcg⟩ := hrel
        have hsz := hcg.size
        rcases Nat.eq_zero_or_pos k with hk0 | hk0
        · subst hk0
          have hv : v < 1 := by have := hki.out; omega
          clear hki
          go_wp2
          go_ret
          refine ⟨A, c, l, b, ok, rfl, hown, hr, ?_, hcg⟩
          rcases hst.out with ⟨h1, h2⟩ | ⟨h1, h2⟩
          · exact .inl ⟨h1, h2⟩
          · exact .inr ⟨h1, h2⟩
        · obtain rfl : v = k := by have := hki.out; omega
          clear hki
          obtain ⟨k, rfl⟩ : ∃ j, k = j + 1 := ⟨k - 1, by omega⟩
          go_wp2_with fail
          refine (kbelow_any g s b (((k + 2 : Nat)) : Int) ok _ hr hb0 hb1 (by omega) (by omega)).mono ?_
          rintro e w4 ⟨hyes, hno, hc⟩
          have hz4 := hc.size
          have hc4 := hcg.trans hc
          have hO4 : OwnI w4 w.heap.size w4.heap.size A m c l := OwnI.of_own (hown.own.keep fun gg hA hl => hc.block gg hl (by have := (hown.own.row_ge gg (by rw [hA]; rfl)).1; omega)) hown.small
          clear hr hcg hc hown
          have HJ : ∃ (j : Nat) (b2 : Int) (ok2 : Bool), e = .returned (.int .i64 j) ∧ j < k + 2 ∧ RdrAt w4 g s b2 ok2 ∧ 0 ≤ b2 ∧ b2 ≤ 1000000 ∧ ((ok2 = true ∧ RR = shufT s k (swapL l (k + 1) j) b2) ∨ (ok2 = false ∧ RR = none)) := by
            rcases hst.out with ⟨rfl, hR⟩ | ⟨rfl, hR⟩
            · rw [if_pos rfl] at hyes hno
              cases hM : belowM s (((k + 2 : Nat)) : Int) b with
              | none =>
                obtain ⟨he, b2, hr2, h20, h21⟩ := hno hM
                exact ⟨0, b2, false, he, by omega, hr2, h20, h21, .inr ⟨rfl, hR.trans (shufT_none hM)⟩⟩
              | some p =>
                obtain ⟨v, b2⟩ := p
                obtain ⟨he, hr2⟩ := hyes v b2 hM
                have hv := belowM_bd hM hb0 hb1
                obtain ⟨j, rfl⟩ := Int.eq_ofNat_of_zero_le hv.1
                exact ⟨j, b2, true, he, by omega, hr2, hv.2.2.1, hv.2.2.2, .inl ⟨rfl, by rw [hR, shufT_some hM, Int.toNat_natCast]⟩⟩
            · rw [if_neg (by simp)] at hyes hno
              obtain ⟨he, b2, hr2, h20, h21⟩ := hno rfl
              exact ⟨0, b2, false, he, by omega, hr2, h20, h21, .inr ⟨rfl, hR⟩⟩
          obtain ⟨j, b2, ok2, rfl, hj, hr4, h20, h21, hst2⟩ := HJ
          have HST := Lib.hid hst2
          clear hyes hno hst hst2
          obtain ⟨ga, rfl, hga, hgl4, hcg1, hfg1⟩ := hO4.own.at_ (show k + 1 < m by omega)
          obtain ⟨g2, hge2, _, _, hcg2, hfg2⟩ := hO4.own.at_ (show j < m by omega)
          simp only [Option.some.injEq, Addr.mk.injEq, and_true] at hge2
          subst hge2
          obtain ⟨x, hx⟩ : ∃ x, l[k + 1]?.getD 0 = x := ⟨_, rfl⟩
          obtain ⟨y, hy⟩ : ∃ y, l[j]?.getD 0 = y := ⟨_, rfl⟩
          rw [hx] at hcg1
          rw [hy] at hcg2
          have E := Lib.hid (show swapL l (k + 1) j = (l.set (k + 1) y).set j x by rw [swapL, hx, hy])
          clear hx hy
          have HR2 := Lib.hid (OwnI.fit ((hO4.set (k := k + 1) (x := y)).set (k := j) (x := x)) (Nat.le_refl _))
          have HR3 := Lib.hid ((hr4.far (p := ⟨ga, k + 1, none⟩) (by simp; omega) (.int .i64 y)).far (p := ⟨ga, j, none⟩) (by simp; omega) (.int .i64 x))
          have HR5 := Lib.hid ((hc4.setNew (p := ⟨ga, k + 1, none⟩) (by simp; omega) (.int .i64 y)).setNew (p := ⟨ga, j, none⟩) (by simp; omega) (.int .i64 x))
          rw [← E.out] at HR2
          obtain ⟨g3, hge3, _, _, hcg3, hfg3⟩ := (hO4.set (k := k + 1) (x := y)).own.at_ (show j < m by omega)
          simp only [Option.some.injEq, Addr.mk.injEq, and_true] at hge3
          subst hge3
          clear hO4 hr4 hc4 hgl4
          go_wp2
          go_roundw
          case rel => exact ⟨k, _, b2, _, ok2, by omega, rfl, Lib.hid (by omega), HR2.out, HR3.out, h20, h21, HST, HR5.out⟩
          case measure => simp [intOf]

end Go.Proofs.YtgeilnkglbcmeaaGreat
