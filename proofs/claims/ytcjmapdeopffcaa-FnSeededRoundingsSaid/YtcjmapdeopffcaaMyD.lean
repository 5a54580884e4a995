/- The beginning of a filling: the reference. -/
import Derived.Test.YtcjmapdeopffcaaMyC
import Derived.Deep.AppendLies
import Derived.Deep.RegionHeld3
import Derived.Deep.RegionLaw
namespace Go.Proofs.Ytcjmapdeopffcaa
open Go.RowKit Flo
set_option linter.unusedVariables false

/-- 'append(s, v)' of one int at a step of a region that draws its order. -/
theorem step_app1m {wr : World} {v : Int} {ops : Array Oper} {o : Oper} {a : Act} {K : Act → World → Prop} {Q : Exit → Act → World → Prop} {E : Prop} (hgd : o.guard = none) (s x : Operand)
    (ho : o.op = .call { callee := .builtin .append, args := #[s, x], argTypes := #[24, 24] })
    (B : Nat) (A : Option Addr) (n c : Nat) (xs : List Int) (hs : a.eval s = .slice A n c) (hown : Own wr B A n c xs)
    (g : Nat) (hx : a.eval x = .slice (some ⟨g, 0, none⟩) 1 1) (hg : g = wr.heap.size) (hsz : n + 1 ≤ 1099511627776) (hB : B ≤ wr.heap.size)
    (h : ∀ A2 c2 w', Own w' B A2 (n + 1) c2 (xs ++ [v]) → wr.grownBy w' (rowOf A) → (rowOf A2 = rowOf A ∨ rowOf A2 = some (wr.heap.size + 1)) → K (a.put o.dst (.slice A2 (n + 1) c2)) w') :
    if Region.wanted o (yielded ops a.tmps) = true then Oper.wp Try.prog o a (wr.alloc (.cells #[.int .i64 v] 3)) K Q else E := by
  obtain ⟨i0, hi, hz0, hz1, hz2⟩ := info_parts Try.infoInt
  have hw : Region.wanted o (yielded ops a.tmps) = true := by simp [Region.wanted, hgd]
  rw [if_pos hw]
  subst hg
  have hownA : Own (wr.alloc (.cells #[.int .i64 v] 3)) B A n c xs := hown.below ((Below.refl _ _).alloc (Nat.le_refl _) _)
  refine wp_append_lies (P := Try.prog) _ s x 24 ho B 3 i0 _ 1 8 Try.underlying24 hi hz0 hz1 hz2 rfl (by omega) (.slice A n c) n (xs.map (Value.int .i64)) hs hownA ⟨wr.heap.size, 0, none⟩ 1 1 [.int .i64 v] hx rfl (World.news_of_block (cs := #[.int .i64 v]) (t := 3) (fr := (0, 0)) (heap_alloc_new wr _)) (by simp [Value.oneCell']) (by omega) (by unfold maxLen; omega) (by omega) (by simp; omega) (wr.heap.size + 1) (by simp) ?_
  intro g2 cap w' h1 h2 h3 _
  rw [ownBlock_row] at h2 h3
  refine h (some ⟨g2, 0, none⟩) cap w' (by simpa [Own] using h1) (grownBy_trans (World.grownBy_alloc wr _ _) h2) ?_
  rcases h3 with h3 | h3
  · exact .inl h3.symm
  · exact .inr (by rw [h3]; rfl)

/-- .. where the draw stands outside. -/
theorem step_app1d {wr : World} {v : Int} {ops : Array Oper} {o : Oper} {a : Act} {K : Act → World → Prop} {Q : Exit → Act → World → Prop} {E : Prop} (hgd : o.guard = none) (s x : Operand)
    (ho : o.op = .call { callee := .builtin .append, args := #[s, x], argTypes := #[24, 24] })
    (B : Nat) (A : Option Addr) (n c : Nat) (xs : List Int) (hs : a.eval s = .slice A n c) (hown : Own wr B A n c xs)
    (g : Nat) (hx : a.eval x = .slice (some ⟨g, 0, none⟩) 1 1) (hg : g = wr.heap.size) (hsz : n + 1 ≤ 1099511627776) (hB : B ≤ wr.heap.size)
    (h : ∀ A2 c2 w', Own w' B A2 (n + 1) c2 (xs ++ [v]) → wr.grownBy w' (rowOf A) → (rowOf A2 = rowOf A ∨ rowOf A2 = some (wr.heap.size + 1)) → K (a.put o.dst (.slice A2 (n + 1) c2)) w') :
    if Region.wanted o (yielded ops a.tmps) = true then Oper.wp Try.prog o a (World.drew (wr.alloc (.cells #[.int .i64 v] 3))) K Q else E := by
  obtain ⟨i0, hi, hz0, hz1, hz2⟩ := info_parts Try.infoInt
  have hw : Region.wanted o (yielded ops a.tmps) = true := by simp [Region.wanted, hgd]
  rw [if_pos hw]
  subst hg
  have hownA : Own (World.drew (wr.alloc (.cells #[.int .i64 v] 3))) B A n c xs := hown.below ((Below.refl _ _).alloc (Nat.le_refl _) _).drew
  refine wp_append_lies (P := Try.prog) _ s x 24 ho B 3 i0 _ 1 8 Try.underlying24 hi hz0 hz1 hz2 rfl (by omega) (.slice A n c) n (xs.map (Value.int .i64)) hs hownA ⟨wr.heap.size, 0, none⟩ 1 1 [.int .i64 v] hx rfl (World.news_of_block (cs := #[.int .i64 v]) (t := 3) (fr := (0, 0)) (show (World.drew (wr.alloc (.cells #[.int .i64 v] 3))).heap[wr.heap.size]? = some (.cells #[.int .i64 v] 3 (0, 0)) from heap_alloc_new wr _)) (by simp [Value.oneCell']) (by omega) (by unfold maxLen; omega) (by omega) (by simp; omega) (wr.heap.size + 1) (by simp) ?_
  intro g2 cap w' h1 h2 h3 _
  rw [ownBlock_row] at h2 h3
  refine h (some ⟨g2, 0, none⟩) cap w' (by simpa [Own] using h1) (grownBy_trans (World.grownBy_alloc wr _ _) ⟨h2.os, h2.tape, h2.output, h2.size, h2.block⟩) ?_
  rcases h3 with h3 | h3
  · exact .inl h3.symm
  · exact .inr (by rw [h3]; rfl)
theorem box_grown {w w' : World} {g : Nat} {o : Obj} {A : Option Addr} (h : w.heap[g]? = some o) (hg : w.grownBy w' (rowOf A)) (hne : rowOf A ≠ some g) : w'.heap[g]? = some o := (hg.block g (lt_of_block h) (fun e => hne e.symm)).trans h
/-- A box with one list that grows: what is known behind a round. -/
theorem grow_one {wc wr w7 : World} {F B i k cD c3 : Nat} {D A3 : Option Addr} {cs : Array Value} {T : TypeId} {g : Nat → Int} (hbx : wr.heap[F]? = some (.cells cs T (0, 0))) (hFB : F + 1 ≤ B) (hown : Own wr B D k cD (lst k g)) (hbw : Below F wc wr) (hsz : B ≤ wr.heap.size) (hgr : wr.grownBy w7 (rowOf D)) (hown7 : Own w7 B A3 (k + 1) c3 (lst k g ++ [g k])) (hi : i < cs.size) :
    w7.heap[F]? = some (.cells cs T (0, 0)) ∧ (w7.setCell ⟨F, i, none⟩ (.slice A3 (k + 1) c3)).heap[F]? = some (.cells (cs.setIfInBounds i (.slice A3 (k + 1) c3)) T (0, 0)) ∧ Own (w7.setCell ⟨F, i, none⟩ (.slice A3 (k + 1) c3)) B A3 (k + 1) c3 (lst (k + 1) g) ∧ Below F wc (w7.setCell ⟨F, i, none⟩ (.slice A3 (k + 1) c3)) ∧ B ≤ (w7.setCell ⟨F, i, none⟩ (.slice A3 (k + 1) c3)).heap.size := by
  have hr : ∀ q, rowOf D = some q → B ≤ q := fun q hq => (hown.row_ge q hq).1
  have h7 := box_grown hbx hgr (fun e => by have := hr F e; omega)
  refine ⟨h7, box_set h7 i _, ?_, (hbw.grown hgr (by omega) (fun q hq => by have := hr q hq; omega)).setCell (Nat.le_refl _) _, by have := hgr.size; simp; omega⟩
  rw [lst_snoc]
  exact own_chg hown7 ((Chg.refl F (F + 1) w7).set (Nat.le_refl _) (by omega)) hFB
theorem grow_two {wr w7 : World} {F B lo k n cD cP : Nat} {D P : Option Addr} {i : Nat} {v : Value} {xs ys : List Int} (hP : OwnI wr lo B P n cP ys) (hF : F < lo) (hown : Own wr B D k cD xs) (hgr : wr.grownBy w7 (rowOf D)) : OwnI (w7.setCell ⟨F, i, none⟩ v) lo B P n cP ys := by
  have h1 : OwnI w7 lo B P n cP ys := ⟨hP.own.keep fun g e hg => hgr.block g hg (fun e2 => by
    have h1 := hP.top g (by rw [e]; rfl)
    have h2 := (hown.row_ge g e2.symm).1
    omega), hP.top, hP.small⟩
  exact h1.chg ((Chg.refl F (F + 1) w7).set (Nat.le_refl _) (by omega)) (.inr hF)

/-- What is left of the sums at the beginning. -/
def rowLeft (t : Net) (i : Nat) : Int := t.R i - sm t.m (t.lo i)
def colLeft (t : Net) (j : Nat) : Int := t.C j - sm t.n (fun i => t.lo i j)
theorem start_part {t : Net} (ht : NetB t) (h1 : allR (lst t.n (rowLeft t)) 0 100000 = true) (h2 : allR (lst t.m (colLeft t)) 0 100000 = true) : t.Part t.lo (rowLeft t) (colLeft t) := by
  refine ⟨fun i j _ _ => Int.le_refl _, fun i j hi hj => (ht.b i j hi hj).2.1, fun i hi => by unfold rowLeft; omega, fun j hj => by unfold colLeft; omega, fun i hi => ?_, fun j hj => ?_⟩
  · have := allR_of h1 i (by rw [lst_len]; exact hi)
    rw [lst_get hi] at this
    exact this.1
  · have := allR_of h2 j (by rw [lst_len]; exact hj)
    rw [lst_get hj] at this
    exact this.1
theorem start_no1 {t : Net} (ht : NetB t) (h1 : allR (lst t.n (rowLeft t)) 0 100000 = false) : ¬ t.Feas := by
  rintro ⟨x, hx⟩
  have : allR (lst t.n (rowLeft t)) 0 100000 = true := allR_yes fun i hi => by
    rw [lst_len] at hi
    rw [lst_get hi]
    have h2 := hx.row i hi
    have h3 : sm t.m (t.lo i) ≤ sm t.m (x i) := sm_le fun j hj => hx.ge i j hi hj
    have h4 := ht.r i hi
    have h5 : 0 ≤ sm t.m (t.lo i) := sm_nonneg fun j hj => (ht.b i j hi hj).1
    unfold rowLeft
    exact inR_yes (by omega) (by omega)
  rw [this] at h1; cases h1
theorem start_no2 {t : Net} (ht : NetB t) (h1 : allR (lst t.m (colLeft t)) 0 100000 = false) : ¬ t.Feas := by
  rintro ⟨x, hx⟩
  have : allR (lst t.m (colLeft t)) 0 100000 = true := allR_yes fun j hj => by
    rw [lst_len] at hj
    rw [lst_get hj]
    have h2 := hx.col j hj
    have h3 : sm t.n (fun i => t.lo i j) ≤ sm t.n (fun i => x i j) := sm_le fun i hi => hx.ge i j hi hj
    have h4 := ht.c j hj
    have h5 : 0 ≤ sm t.n (fun i => t.lo i j) := sm_nonneg fun i hi => (ht.b i j hi hj).1
    unfold colLeft
    exact inR_yes (by omega) (by omega)
  rw [this] at h1; cases h1

set_option maxRecDepth 100000 in
set_option maxHeartbeats 8000000 in
theorem tStart_any (n m : Nat) (R C L H : Option Addr) (rc cc lc hc : Nat) (t : Net) (w : World) (en : t.n = n) (em : t.m = m) (hN : NetR w R C L H t) (ht : NetB t) :
    Calls Try.prog 99 #[.agg #[.slice R n rc, .slice C m cc, .slice L n lc, .slice H n hc]] w fun e w' => ∃ (F h0 h1 h2 h3 h4 : Nat) (X A B : Option Addr) (xc ac bc : Nat) (r : Bool), e = .returned (.tuple #[.pointer (some ⟨F, 0, none⟩), .bool r]) ∧
      FilM w w' F n m h0 h1 h2 h3 h4 R C L H X A B rc cc lc hc xc ac bc t t.lo (rowLeft t) (colLeft t) ∧ Below w.heap.size w w' ∧ (r = true → t.Part t.lo (rowLeft t) (colLeft t)) ∧ (r = false → ¬ t.Feas) := by
  have h8 := ht.n8
  have h8' := ht.m8
  rw [en] at h8
  rw [em] at h8'
  have HT := Lib.hid ht
  have HN := Lib.hid hN
  have EN := Lib.hid en
  have EM := Lib.hid em
  have b0 := below_new w (.cells #[.slice R n rc, .slice C m cc, .slice L n lc, .slice H n hc] 54)
  have x0 := box_new w #[.slice R n rc, .slice C m cc, .slice L n lc, .slice H n hc] 54
  obtain ⟨T0, hT0⟩ : ∃ T0, w.heap.size = T0 := ⟨_, rfl⟩
  have HT0 := Lib.hid hT0
  have B0 := Lib.hid b0
  have X0 := Lib.hid x0
  clear hN ht en em b0 x0
  go_enter Try.func99, Try.ntmps99
  go_wp2_with fail
  have x1 := X0.out
  have b1 := B0.out
  have hz1 : (w.alloc (.cells #[.slice R n rc, .slice C m cc, .slice L n lc, .slice H n hc] 54)).heap.size = T0 + 1 := by rw [← HT0.out]; simp
  rw [HT0.out] at x1
  generalize w.alloc (.cells #[.slice R n rc, .slice C m cc, .slice L n lc, .slice H n hc] 54) = w1 at *
  have c0 := box_cell x1 0 (.slice R n rc) rfl
  have c1 := box_cell x1 1 (.slice C m cc) rfl
  have c2 := box_cell x1 2 (.slice L n lc) rfl
  have c3 := box_cell x1 3 (.slice H n hc) rfl
  have HNw := Lib.hid (HN.out.below b1)
  have HL0 : Hid (MatR w1 L n m t.lo) := Lib.hid (by have := HNw.out.lo; rw [EN.out, EM.out] at this; exact this)
  have HX1 := Lib.hid x1
  have m1 := HT.out.m1
  rw [EM.out] at m1
  clear x1 b1
  have HK := Lib.hid (fun (w2 : World) (A' : Option Addr) (c' : Nat) (h : Mat w2 w1.heap.size w2.heap.size A' n c' m t.lo) (hb : Below w1.heap.size w1 w2) => (show ∃ (F : Nat) (X : Option Addr) (xc : Nat), Value.pointer (some ⟨w2.heap.size, 0, none⟩) = .pointer (some ⟨F, 0, none⟩) ∧ (w2.alloc (.cells #[.slice R n rc, .slice C m cc, .slice L n lc, .slice H n hc, .slice A' n c', .slice none 0 0, .slice none 0 0] 97)).heap[F]? = some (.cells #[.slice R n rc, .slice C m cc, .slice L n lc, .slice H n hc, .slice X n xc, .slice none 0 0, .slice none 0 0] 97 (0, 0)) ∧ Mat (w2.alloc (.cells #[.slice R n rc, .slice C m cc, .slice L n lc, .slice H n hc, .slice A' n c', .slice none 0 0, .slice none 0 0] 97)) (T0 + 1) F X n xc m t.lo ∧ T0 + 1 ≤ F ∧ (w2.alloc (.cells #[.slice R n rc, .slice C m cc, .slice L n lc, .slice H n hc, .slice A' n c', .slice none 0 0, .slice none 0 0] 97)).heap.size = F + 1 ∧ Below w1.heap.size w1 (w2.alloc (.cells #[.slice R n rc, .slice C m cc, .slice L n lc, .slice H n hc, .slice A' n c', .slice none 0 0, .slice none 0 0] 97)) from
    ⟨w2.heap.size, A', c', rfl, box_new _ _ _, by rw [← hz1]; exact h.below (below_new _ _), by rw [← hz1]; exact hb.size, by simp, hb.trans ((below_new _ _).mono hb.size)⟩))
  go_cut [4] (fun v4 wx => ∃ (F : Nat) (X : Option Addr) (xc : Nat), v4 = .pointer (some ⟨F, 0, none⟩) ∧ wx.heap[F]? = some (.cells #[.slice R n rc, .slice C m cc, .slice L n lc, .slice H n hc, .slice X n xc, .slice none 0 0, .slice none 0 0] 97 (0, 0)) ∧ Mat wx (T0 + 1) F X n xc m t.lo ∧ T0 + 1 ≤ F ∧ wx.heap.size = F + 1 ∧ Below w1.heap.size w1 wx)
  case first =>
    go_region_law ((first | (go_simp; go_at_call 68; refine (tOwn_any L n lc m t.lo _ (IntsS.below HL0.out (Below.refl _ _).drew) (by omega) (by omega) (by omega)).mono ?_; rintro e w2 ⟨A', c', rfl, o2, b2⟩; have q0 := cellLater (w := w1) (w' := w2) c0 ((Below.refl _ _).drew.trans b2); have q1 := cellLater (w := w1) (w' := w2) c1 ((Below.refl _ _).drew.trans b2); have q2 := cellLater (w := w1) (w' := w2) c2 ((Below.refl _ _).drew.trans b2); have q3 := cellLater (w := w1) (w' := w2) c3 ((Below.refl _ _).drew.trans b2); dsimp only)))
    all_goals (go_wp2_with fail; go_meet)
    all_goals exact HK.out _ _ _ o2 ((Below.refl _ _).drew.trans b2)
  case rest =>
    obtain ⟨F, X, xc, rfl, x5, o5, hF5, hz5, b5⟩ := hcut
    have HX5 := Lib.hid x5
    have HO5 := Lib.hid o5
    have HT5 := Lib.hid (box_below HX1.out b5)
    have HB5 := Lib.hid b5
    have HN5 := Lib.hid (HNw.out.below b5)
    have d0 := box_cell HT5.out 0 (.slice R n rc) rfl
    have hTF : T0 < F := by omega
    have HR5 : Hid (VecR wc R n t.R) := Lib.hid (by have := HN5.out.r; rw [EN.out] at this; exact this)
    have HC5 : Hid (VecR wc C m t.C) := Lib.hid (by have := HN5.out.c; rw [EM.out] at this; exact this)
    have HL5 : Hid (MatR wc L n m t.lo) := Lib.hid (by have := HN5.out.lo; rw [EN.out, EM.out] at this; exact this)
    have O0 : Hid (Own wc (F + 1) none 0 0 (lst 0 (rowLeft t))) := Lib.hid Own.nil_
    have B5 : Hid (Below F wc wc) := Lib.hid (Below.refl _ _)
    have hz5' : F + 1 ≤ wc.heap.size := by omega
    have HK1 : Hid (∀ i, i < n → 0 ≤ sm m (t.lo i) ∧ sm m (t.lo i) ≤ 800000 ∧ 0 ≤ t.R i ∧ t.R i ≤ 100000 ∧ rowLeft t i = t.R i - sm m (t.lo i)) := Lib.hid (fun i hi => by
      have h1 := sm_bd (n := m) (f := t.lo i) (b := 100000) (fun k hk => by have := HT.out.b i k (by rw [EN.out]; exact hi) (by rw [EM.out]; exact hk); omega)
      have h2 := HT.out.r i (by rw [EN.out]; exact hi)
      exact ⟨h1.1, by omega, h2.1, h2.2, by unfold rowLeft; rw [EM.out]⟩)
    have HK2 : Hid (∀ j, j < m → 0 ≤ sm n (fun i => t.lo i j) ∧ sm n (fun i => t.lo i j) ≤ 800000 ∧ 0 ≤ t.C j ∧ t.C j ≤ 100000 ∧ colLeft t j = t.C j - sm n (fun i => t.lo i j)) := Lib.hid (fun j hj => by
      have h1 := sm_bd (n := n) (f := fun i => t.lo i j) (b := 100000) (fun k hk => by have := HT.out.b k j (by rw [EN.out]; exact hk) (by rw [EM.out]; exact hj); omega)
      have h2 := HT.out.c j (by rw [EM.out]; exact hj)
      exact ⟨h1.1, by omega, h2.1, h2.2, by unfold colLeft; rw [EN.out]⟩)
    have HLB : Hid (∀ i j, i < n → j < m → 0 ≤ t.lo i j ∧ t.lo i j ≤ 1000000000) := Lib.hid (fun i j hi hj => by have := HT.out.b i j (by rw [EN.out]; exact hi) (by rw [EM.out]; exact hj); omega)
    have HZ1 := Lib.hid hz1
    clear x5 o5 b5 c0 c1 c2 c3 hz1
    go_wp2_with fail
    clear d0
    go_loopw [18] (fun i wr => ∃ (k : Nat) (D : Option Addr) (cD : Nat), k ≤ n ∧ i = .int .i64 k ∧ Hid (wr.heap[F]? = some (.cells #[.slice R n rc, .slice C m cc, .slice L n lc, .slice H n hc, .slice X n xc, .slice D k cD, .slice none 0 0] 97 (0, 0))) ∧ Hid (Own wr (F + 1) D k cD (lst k (rowLeft t))) ∧ Hid (Below F wc wr) ∧ F + 1 ≤ wr.heap.size) (fun i _ => n - (intOf i).toNat)
    case atStart => exact ⟨0, none, 0, Nat.zero_le _, rfl, HX5, O0, B5, hz5'⟩
    case round =>
      clear O0 B5 hz5'
      obtain ⟨k, D, cD, hk, rfl, HX, HO, HB, hz⟩ := hrel
      by_cases hlt : k < n
      · have hb1 := HB5.out.trans (HB.out.mono (by rw [HZ1.out]; omega))
        have HNr := Lib.hid (HNw.out.below hb1)
        have hx1r := box_below HX1.out hb1
        have e2 := box_cell hx1r 2 (.slice L n lc) rfl
        obtain ⟨ar, rfl, cr⟩ := vecR_at HNr.out.r (show k < t.n by rw [EN.out]; exact hlt)
        obtain ⟨al, rfl, V, cv, cl, hv⟩ := matR_row HNr.out.lo (show k < t.n by rw [EN.out]; exact hlt)
        rw [EM.out] at cl hv
        have hts := Lib.hid (tSum_any V m cv (t.lo k) wr.drew (Ints.below hv (Below.refl _ _).drew) (by omega) (fun j hj => HLB.out k j hlt hj))
        obtain ⟨s0, s1, p0, p1, hrl⟩ := HK1.out k hlt
        have q0 := box_cell HX.out 5 (.slice D k cD) rfl
        have ho' := HO.out
        have hx' := HX.out
        have hB' := HB.out
        have HRL := Lib.hid hrl
        have q5 : (wr.alloc (.cells #[.int .i64 (t.R k - sm m (t.lo k))] 3)).cell? ⟨F, 5, none⟩ = some (.slice D k cD) := box_cell (box_below hx' (below_new _ _)) 5 _ rfl
        have HG7 := Lib.hid (fun (w7 : World) (A3 : Option Addr) (c3 : Nat) (own7 : Own w7 (F + 1) A3 (k + 1) c3 (lst k (rowLeft t) ++ [t.R k - sm m (t.lo k)])) (hgr : wr.grownBy w7 (rowOf D)) => (show _ from grow_one (i := 5) hx' (Nat.le_refl _) ho' hB' hz hgr (by rw [HRL.out]; exact own7) (by show 5 < 7; omega)))
        clear hrl hv HO hB' hx' hb1 hx1r
        generalize t.R k = p at *
        generalize sm m (t.lo k) = s at *
        have W1 : IntKind.i64.wrap (p - s) = p - s := IntWalk.i64_in _ ⟨by omega, by omega⟩
        go_wp2_with fail
        go_region_law ((first
          | (go_simp; go_at_call 85; refine hts.out.mono ?_; rintro e w6 ⟨rfl, rfl⟩; dsimp only)
          | (refine step_app1d (by rfl) _ _ (by rfl) (F + 1) D k cD (lst k (rowLeft t)) (by rfl) (by exact ho') _ (by rfl) (by rfl) (by omega) (by exact hz) ?_; intro A3 c3 w7 own7 grow7 _; obtain ⟨y0, y1, y2, y3, y4⟩ := HG7.out w7 A3 c3 own7 grow7; have q2 := box_cell y0 5 _ rfl; have q3 := box_free y0 5; have Y1 := Lib.hid y1; have Y2 := Lib.hid y2; have Y3 := Lib.hid y3; have Y4 := Lib.hid y4; clear y0 y1 y2 y3 y4 own7 grow7)))
        all_goals (clear q0 q2 q3 q5 W1 hts e2 cl cr)
        all_goals go_wp2
        all_goals go_roundw
        all_goals first | exact ⟨k + 1, A3, c3, by omega, by go_num, Y1, Y2, Y3, Y4.out⟩ | (simp [intOf]; omega)
      · obtain rfl : k = n := by omega
        obtain ⟨h3, hh3⟩ : ∃ h3, wr.heap.size = h3 := ⟨_, rfl⟩
        have H3 := Lib.hid hh3
        have hb1 := HB5.out.trans (HB.out.mono (by rw [HZ1.out]; omega))
        have HBr := Lib.hid hb1
        have hx1r := box_below HX1.out hb1
        have d1 := box_cell hx1r 1 (.slice C m cc) rfl
        have O0 : Hid (Own wr h3 none 0 0 (lst 0 (colLeft t))) := Lib.hid Own.nil_
        have hz3 : F + 1 ≤ h3 := by omega
        have P0 : Hid (OwnI wr (F + 1) h3 D k cD (lst k (rowLeft t))) := Lib.hid (by rw [← hh3]; exact OwnI.of_own HO.out (by omega))
        have hzw : h3 ≤ wr.heap.size := by omega
        clear hb1 hx1r hh3 hlt HO hz
        go_wp2_with fail
        clear d1
        go_loopw [44] (fun i wr => ∃ (j : Nat) (E : Option Addr) (cE : Nat), j ≤ m ∧ i = .int .i64 j ∧ Hid (wr.heap[F]? = some (.cells #[.slice R k rc, .slice C m cc, .slice L k lc, .slice H k hc, .slice X k xc, .slice D k cD, .slice E j cE] 97 (0, 0))) ∧ Hid (OwnI wr (F + 1) h3 D k cD (lst k (rowLeft t))) ∧ Hid (Own wr h3 E j cE (lst j (colLeft t))) ∧ Hid (Below F wc wr) ∧ h3 ≤ wr.heap.size) (fun i _ => m - (intOf i).toNat)
        case atStart => exact ⟨0, none, 0, Nat.zero_le _, rfl, HX, P0, O0, HB, hzw⟩
        case round =>
          clear O0 P0 HX HB hzw HBr
          obtain ⟨j, E, cE, hj, rfl, HX, HP, HO, HB, hz⟩ := hrel
          by_cases hlt : j < m
          · have hb1 := HB5.out.trans (HB.out.mono (by rw [HZ1.out]; omega))
            have HNr := Lib.hid (HNw.out.below hb1)
            have hx1r := box_below HX1.out hb1
            have e2 := box_cell hx1r 2 (.slice L k lc) rfl
            obtain ⟨ac, rfl, cr⟩ := vecR_at HNr.out.c (show j < t.m by rw [EM.out]; exact hlt)
            have hlo : MatR wr.drew L k m t.lo := IntsS.below (by have := HNr.out.lo; rw [EN.out, EM.out] at this; exact this) (Below.refl _ _).drew
            have htc := Lib.hid (tColumn_any L k lc m j t.lo wr.drew hlo (by omega) hlt)
            have hts := Lib.hid (fun (w6 : World) (A' : Option Addr) (c' : Nat) (h : VecR w6 A' k (fun i => t.lo i j)) => tSum_any A' k c' (fun i => t.lo i j) w6 h (by omega) (fun i hi => HLB.out i j hi hlt))
            obtain ⟨s0, s1, p0, p1, hrl⟩ := HK2.out j hlt
            have hx' : wr.drew.heap[F]? = _ := HX.out
            have q0 := box_cell HX.out 6 (.slice E j cE) rfl
            have HRL := Lib.hid hrl
            have q1 : ((wr.alloc (.cells #[] 3))).heap.size = wr.heap.size + 1 := by simp
            have HG6 := Lib.hid (fun (w6 : World) (hb : Below wr.heap.size wr w6) => (show w6.heap[F]? = some (.cells #[.slice R k rc, .slice (some ac) m cc, .slice L k lc, .slice H k hc, .slice X k xc, .slice D k cD, .slice E j cE] 97 (0, 0)) ∧ OwnI w6 (F + 1) h3 D k cD (lst k (rowLeft t)) ∧ Own w6 h3 E j cE (lst j (colLeft t)) ∧ Below F wc w6 ∧ h3 ≤ w6.heap.size from
              ⟨box_below HX.out hb, HP.out.below hb, HO.out.below hb, HB.out.trans (hb.mono (by have := HB.out.size; omega)), Nat.le_trans hz hb.size⟩))
            have HG7 := Lib.hid (fun (w6 w7 : World) (A3 : Option Addr) (c3 : Nat) (hb : Below wr.heap.size wr w6) (own7 : Own w7 h3 A3 (j + 1) c3 (lst j (colLeft t) ++ [t.C j - sm k (fun i => t.lo i j)])) (hgr : w6.grownBy w7 (rowOf E)) => And.intro (grow_two (i := 6) (v := .slice A3 (j + 1) c3) (F := F) (HG6.out w6 hb).2.1 (by omega) (HG6.out w6 hb).2.2.1 hgr) (grow_one (i := 6) (HG6.out w6 hb).1 hz3 (HG6.out w6 hb).2.2.1 (HG6.out w6 hb).2.2.2.1 (HG6.out w6 hb).2.2.2.2 hgr (by rw [HRL.out]; exact own7) (by show 6 < 7; omega)))
            clear hrl hlo HB hx' hb1 hx1r HX HP HO q1
            generalize t.C j = p at *
            generalize sm k (fun i => t.lo i j) = s at *
            have W1 : IntKind.i64.wrap (p - s) = p - s := IntWalk.i64_in _ ⟨by omega, by omega⟩
            go_wp2_with fail
            go_region_law ((first
              | (go_simp; go_at_call 86; refine htc.out.mono ?_; rintro e w6 ⟨A', c', rfl, o6, b6⟩; have B6 : Hid (Below wr.heap.size wr w6) := Lib.hid ((Below.refl _ _).drew.trans b6); obtain ⟨z0, _, z2, _, z4⟩ := HG6.out w6 B6.out; have q2 := box_cell z0 6 _ rfl; have q5 : (w6.alloc (.cells #[.int .i64 (p - s)] 3)).cell? ⟨F, 6, none⟩ = some (.slice E j cE) := box_cell (box_below z0 (below_new _ _)) 6 _ rfl; have O6 := Lib.hid o6; clear z0 o6 b6; dsimp only)
              | (go_simp; go_at_call 85; refine (hts.out _ A' c' O6.out.ints).mono ?_; rintro e w9 ⟨rfl, rfl⟩; dsimp only)
              | (refine step_app1m (by rfl) _ _ (by rfl) h3 E j cE (lst j (colLeft t)) (by rfl) (by exact z2) _ (by rfl) (by rfl) (by omega) (by exact z4) ?_; intro A3 c3 w7 own7 grow7 _; obtain ⟨y5, y0, y1, y2, y3, y4⟩ := HG7.out w6 w7 A3 c3 B6.out own7 grow7; have q3 := box_cell y0 6 _ rfl; have q4 := box_free y0 6; have Y1 := Lib.hid y1; have Y2 := Lib.hid y2; have Y3 := Lib.hid y3; have Y4 := Lib.hid y4; have Y5 := Lib.hid y5; clear y0 y1 y2 y3 y4 y5 own7 grow7)))
            all_goals (clear q2 q3 q4 q5 z2 z4 W1 hts htc e2 cr)
            all_goals go_wp2
            all_goals go_roundw
            all_goals first | exact ⟨j + 1, A3, c3, by omega, by go_num, Y1, Y5, Y2, Y3, Y4.out⟩ | (simp [intOf]; omega)
          · obtain rfl : j = m := by omega
            have HX6 : Hid (Mat wr (T0 + 1) F X k xc j t.lo) := Lib.hid (HO5.out.keep fun g h1 h2 h3 => HB.out.block g h2)
            have hb1 := HB5.out.trans (HB.out.mono (by rw [HZ1.out]; omega))
            have HBw : Hid (Below w.heap.size w wr) := Lib.hid (B0.out.trans (hb1.mono (by rw [HZ1.out]; omega)))
            have HOE := Lib.hid (OwnI.of_own HO.out (by omega))
            have HFin : Hid (FilM w wr F k j (T0 + 1) F (F + 1) h3 wr.heap.size R C L H X D E rc cc lc hc xc cD cE t t.lo (rowLeft t) (colLeft t)) := Lib.hid ⟨HN.out, HBw.out, by omega, by omega, by omega, by omega, by omega, Nat.le_refl _, EN.out, EM.out, HX.out, HX6.out, HP.out, HOE.out, by omega, .inr ⟨Nat.le_refl _, by omega⟩⟩
            have q5 := box_cell HX.out 5 (.slice D k cD) rfl
            have q6 := box_cell HX.out 6 (.slice E j cE) rfl
            have hdr := HP.out.own.ints
            have hde := HO.out.ints
            have HDR := Lib.hid hdr
            have HDE := Lib.hid hde
            clear hb1 hdr hde HX HP HO HB hz
            go_wp2_with fail
            refine (l1All_any D k cD (lst k (rowLeft t)) 0 100000 _ HDR.out (by omega)).mono ?_
            rintro e w9 ⟨rfl, rfl⟩
            cases hA : allR (lst k (rowLeft t)) 0 100000
            case false =>
              have HNo := Lib.hid (start_no1 HT.out (by rw [EN.out]; exact hA))
              clear hA
              go_wp2
              go_ret2
              exact ⟨F, _, _, _, _, _, X, D, E, xc, cD, cE, false, rfl, HFin.out, HBw.out, (fun h => by cases h), fun _ => HNo.out⟩
            case true =>
              have HA := Lib.hid hA
              clear hA
              go_wp2_with fail
              refine (l1All_any E j cE (lst j (colLeft t)) 0 100000 _ HDE.out (by omega)).mono ?_
              rintro e w9 ⟨rfl, rfl⟩
              cases hA2 : allR (lst j (colLeft t)) 0 100000
              case false =>
                have HNo := Lib.hid (start_no2 HT.out (by rw [EM.out]; exact hA2))
                clear hA2
                go_wp2
                go_ret2
                exact ⟨F, _, _, _, _, _, X, D, E, xc, cD, cE, false, rfl, HFin.out, HBw.out, (fun h => by cases h), fun _ => HNo.out⟩
              case true =>
                have HYes := Lib.hid (start_part HT.out (by rw [EN.out]; exact HA.out) (by rw [EM.out]; exact hA2))
                clear hA2
                go_wp2
                go_ret2
                exact ⟨F, _, _, _, _, _, X, D, E, xc, cD, cE, true, rfl, HFin.out, HBw.out, fun _ => HYes.out, (fun h => by cases h)⟩
end Go.Proofs.Ytcjmapdeopffcaa
