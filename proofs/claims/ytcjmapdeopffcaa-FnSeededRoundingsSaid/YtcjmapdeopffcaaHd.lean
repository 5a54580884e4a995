/- Several small texts in one: MyE, MyF. -/
import Derived.Test.YtcjmapdeopffcaaMyD
import Derived.BigQuiet
namespace Go.Proofs.Ytcjmapdeopffcaa

section
open Go.RowKit Flo
set_option linter.unusedVariables false

/-- The sum of a list in memory. -/
def leftAt (w : World) (A : Option Addr) (n : Nat) : Nat := (sm n (fun i => match A with | some ad => intOf ((w.cell? (ad.add i)).getD (.int .i64 0)) | none => 0)).toNat
theorem leftAt_of {w : World} {A : Option Addr} {n : Nat} {a : Nat → Int} (h : VecR w A n a) : leftAt w A n = (sm n a).toNat := by
  unfold leftAt
  rw [sm_congr (g := a) fun i hi => ?_]
  obtain ⟨ad, rfl, hc⟩ := vecR_at h hi
  simp [hc, intOf]

set_option maxRecDepth 100000 in
set_option maxHeartbeats 4000000 in
theorem tFilled_any (n m : Nat) (R C L H : Option Addr) (rc cc lc hc : Nat) (t : Net) (w : World) (en : t.n = n) (em : t.m = m) (hN : NetR w R C L H t) (ht : NetB t) :
    Calls Try.prog 89 #[.agg #[.slice R n rc, .slice C m cc, .slice L n lc, .slice H n hc]] w fun e w' => ∃ (w0 : World) (F h0 h1 h2 h3 h4 : Nat) (X A B : Option Addr) (xc ac bc : Nat) (r : Bool) (x : Nat → Nat → Int) (a b : Nat → Int), e = .returned (.tuple #[.pointer (some ⟨F, 0, none⟩), .bool r]) ∧
      FilM w0 w' F n m h0 h1 h2 h3 h4 R C L H X A B rc cc lc hc xc ac bc t x a b ∧ Below w.heap.size w w' ∧ (r = true → t.Part x a b ∧ Shut t x a b) ∧ (r = false → ¬ t.Feas) := by
  have h8 := ht.n8
  rw [en] at h8
  have HT := Lib.hid ht
  have EN := Lib.hid en
  have EM := Lib.hid em
  have B0 := Lib.hid (below_new w (.cells #[.slice R n rc, .slice C m cc, .slice L n lc, .slice H n hc] 54))
  have X0 := Lib.hid (box_new w #[.slice R n rc, .slice C m cc, .slice L n lc, .slice H n hc] 54)
  have c0 := box_cell X0.out 0 (.slice R n rc) rfl
  have c1 := box_cell X0.out 1 (.slice C m cc) rfl
  have c2 := box_cell X0.out 2 (.slice L n lc) rfl
  have c3 := box_cell X0.out 3 (.slice H n hc) rfl
  have HN := Lib.hid (hN.below B0.out)
  clear hN ht en em
  go_enter Try.func89, Try.ntmps89
  go_wp2_with fail
  generalize w.alloc (.cells #[.slice R n rc, .slice C m cc, .slice L n lc, .slice H n hc] 54) = w1 at *
  refine (tStart_any n m R C L H rc cc lc hc t _ EN.out EM.out HN.out HT.out).mono ?_
  rintro e w2 ⟨F, h0, h1, h2, h3, h4, X, A, B, xc, ac, bc, r, rfl, f2, b2, hr1, hr2⟩
  have F2 := Lib.hid f2
  have B2 := Lib.hid (B0.out.trans (b2.mono B0.out.size))
  have R1 := Lib.hid hr1
  have R2 := Lib.hid hr2
  have hl : w.heap.size ≤ h0 := Nat.le_trans B0.out.size f2.l0
  clear f2 b2 hr1 hr2 c0 c1 c2 c3
  cases r
  case false =>
    have HNo := Lib.hid (R2.out rfl)
    go_wp2
    go_ret2
    exact ⟨w1, F, h0, h1, h2, h3, h4, X, A, B, xc, ac, bc, false, t.lo, _, _, rfl, F2.out, B2.out, (fun h => by cases h), fun _ => HNo.out⟩
  case true =>
    have P2 := Lib.hid (R1.out rfl)
    clear R1 R2
    go_wp2_with fail
    go_loopw [] (fun wr => ∃ (x : Nat → Nat → Int) (a b : Nat → Int), Hid (FilM w1 wr F n m h0 h1 h2 h3 h4 R C L H X A B rc cc lc hc xc ac bc t x a b) ∧ Hid (t.Part x a b) ∧ Hid (Below w.heap.size w wr)) (fun wr => leftAt wr A n)
    case atStart => exact ⟨_, _, _, F2, P2, B2⟩
    case round =>
      clear F2 P2 B2
      obtain ⟨x, a, b, HF, HP, HB⟩ := hrel
      have HM := Lib.hid (leftAt_of HF.out.a.ints)
      have HC := Lib.hid (fun (w5 : World) (c5 : Chg h0 h4 wr w5) => c5.below HB.out hl HB.out.size)
      have HNN := Lib.hid (sm_nonneg HP.out.an)
      rw [EN.out] at HNN
      go_wp2_with fail
      refine (augment_any w1 F n m h0 h1 h2 h3 h4 R C L H X A B rc cc lc hc xc ac bc t x a b _ HF.out HT.out HP.out).mono ?_
      rintro e w5 ⟨r, rfl, c5, x', a', b', f5, p5, s5, q5⟩
      have HB5 := Lib.hid (HC.out w5 c5)
      have F5 := Lib.hid f5
      have P5 := Lib.hid p5
      have HM5 := Lib.hid (leftAt_of f5.a.ints)
      have HNN5 := Lib.hid (sm_nonneg p5.an)
      rw [EN.out] at HNN5
      clear c5 f5 p5
      cases r
      case false =>
        obtain ⟨_, hsh⟩ := q5 rfl
        have SH := Lib.hid hsh
        clear hsh s5 q5
        go_wp2
        go_ret2
        exact ⟨w1, F, h0, h1, h2, h3, h4, X, A, B, xc, ac, bc, true, x', a', b', rfl, F5.out, HB5.out, fun _ => ⟨P5.out, SH.out⟩, (fun h => by cases h)⟩
      case true =>
        have S5 := Lib.hid (s5 rfl)
        clear s5 q5
        go_wp2
        go_roundw
        case rel => exact ⟨x', a', b', F5, P5, HB5⟩
        case measure =>
          rw [HM5.out, HM.out]
          have h1 := S5.out
          have h2 := HNN5.out
          omega

theorem tSum_q (A : Option Addr) (n c : Nat) (g : Nat → Int) (W : World) (h : VecR W A n g) (hn : n ≤ 1000) (hb : ∀ k, k < n → 0 ≤ g k ∧ g k ≤ 1000000000) : Calls Try.prog 85 #[.slice A n c] W fun e w' => e = .returned (.int .i64 (sm n g)) ∧ w' = W := (tSum_any A n c g W h hn hb).mono fun _ _ ⟨h1, h2⟩ => ⟨h1, h2.symm⟩
theorem feas_sums {t : Net} (h : t.Feas) : sm t.n t.R = sm t.m t.C := by
  obtain ⟨x, hx⟩ := h
  rw [← sm_congr (f := fun i => sm t.m (x i)) (g := t.R) hx.row, ← sm_congr (f := fun j => sm t.n (fun i => x i j)) (g := t.C) hx.col]
  exact sm_swap (f := x)
theorem feas_yes {t : Net} {x : Nat → Nat → Int} {a b : Nat → Int} (h : t.Part x a b) (hs : sm t.n t.R = sm t.m t.C) (h0 : ¬ 0 < sm t.n a) : t.Feas := ⟨x, h.flow hs (by have := sm_nonneg h.an; omega)⟩
theorem feas_no {t : Net} {x : Nat → Nat → Int} {a b : Nat → Int} (h : t.Part x a b) (hs : Shut t x a b) (h0 : 0 < sm t.n a) : ¬ t.Feas := by
  rintro ⟨y, hy⟩
  obtain ⟨S, h1, h2, h3⟩ := hs
  have := h.full hy h1 h2 h3
  omega

set_option maxRecDepth 100000 in
set_option maxHeartbeats 4000000 in
theorem tFeasible_any (n m : Nat) (R C L H : Option Addr) (rc cc lc hc : Nat) (t : Net) (w : World) (en : t.n = n) (em : t.m = m) (hN : NetR w R C L H t) (ht : NetB t) :
    Calls Try.prog 66 #[.agg #[.slice R n rc, .slice C m cc, .slice L n lc, .slice H n hc]] w fun e w' => ∃ (X : Option Addr) (xn xc : Nat) (r : Bool), e = .returned (.tuple #[.slice X xn xc, .bool r]) ∧ (r = true ↔ t.Feas) ∧ Below w.heap.size w w' := by
  have h8 := ht.n8
  have h8' := ht.m8
  rw [en] at h8
  rw [em] at h8'
  have HT := Lib.hid ht
  have EN := Lib.hid en
  have EM := Lib.hid em
  have B0 := Lib.hid (below_new w (.cells #[.slice R n rc, .slice C m cc, .slice L n lc, .slice H n hc] 54))
  have X0 := Lib.hid (box_new w #[.slice R n rc, .slice C m cc, .slice L n lc, .slice H n hc] 54)
  have HN := Lib.hid (hN.below B0.out)
  have HR : Hid (VecR _ R n t.R) := Lib.hid (by have := HN.out.r; rw [EN.out] at this; exact this)
  have HC : Hid (VecR _ C m t.C) := Lib.hid (by have := HN.out.c; rw [EM.out] at this; exact this)
  have HRB : Hid (∀ k, k < n → 0 ≤ t.R k ∧ t.R k ≤ 1000000000) := Lib.hid (fun k hk => by have := HT.out.r k (by rw [EN.out]; exact hk); omega)
  have HCB : Hid (∀ k, k < m → 0 ≤ t.C k ∧ t.C k ≤ 1000000000) := Lib.hid (fun k hk => by have := HT.out.c k (by rw [EM.out]; exact hk); omega)
  have HS1 : Hid (t.Feas → sm n t.R = sm m t.C) := Lib.hid (fun h => by have := feas_sums h; rw [EN.out, EM.out] at this; exact this)
  have qR := fun (W : World) (h : VecR W R n t.R) => tSum_q R n rc t.R W h (by omega) HRB.out
  have qC := fun (W : World) (h : VecR W C m t.C) => tSum_q C m cc t.C W h (by omega) HCB.out
  have QR := Lib.hid qR
  have QC := Lib.hid qC
  clear hN ht en em qR qC
  have c0 := box_cell X0.out 0 (.slice R n rc) rfl
  have c1 := box_cell X0.out 1 (.slice C m cc) rfl
  have c2 := box_cell X0.out 2 (.slice L n lc) rfl
  have c3 := box_cell X0.out 3 (.slice H n hc) rfl
  go_enter Try.func66, Try.ntmps66
  go_wp2_with fail
  generalize w.alloc (.cells #[.slice R n rc, .slice C m cc, .slice L n lc, .slice H n hc] 54) = w1 at *
  by_cases hs : sm n t.R = sm m t.C
  case neg =>
    have hne : (sm n t.R != sm m t.C) = true := by simpa using hs
    have HNo : Hid (¬ t.Feas) := Lib.hid (fun h => hs (HS1.out h))
    clear hs HS1
    generalize sm n t.R = sr at *
    generalize sm m t.C = sc at *
    go_quiet ((first | (go_at_call 85; with_reducible exact Calls.quiet_of_same (QR.out _ (Ints.drewN HR.out _))) | (go_at_call 85; with_reducible exact Calls.quiet_of_same (QC.out _ (Ints.drewN HC.out _)))))
    go_wp2
    go_ret2
    exact ⟨none, 0, 0, false, rfl, ⟨(fun h => by cases h), fun h => absurd h HNo.out⟩, below_drewN B0.out _⟩
  case pos =>
    have hne : (sm n t.R != sm m t.C) = false := by simpa using hs
    have HS : Hid (sm t.n t.R = sm t.m t.C) := Lib.hid (by rw [EN.out, EM.out]; exact hs)
    clear hs HS1
    generalize sm n t.R = sr at *
    generalize sm m t.C = sc at *
    go_quiet ((first | (go_at_call 85; with_reducible exact Calls.quiet_of_same (QR.out _ (Ints.drewN HR.out _))) | (go_at_call 85; with_reducible exact Calls.quiet_of_same (QC.out _ (Ints.drewN HC.out _)))))
    go_wp2_with fail
    refine (tFilled_any n m R C L H rc cc lc hc t _ EN.out EM.out (HN.out.below (below_drewN (Below.refl _ _) _)) HT.out).mono ?_
    rintro e w2 ⟨w0, F, h0, h1, h2, h3, h4, X, A, B, xc, ac, bc, r, x, a, b, rfl, f2, b2, hr1, hr2⟩
    have F2 := Lib.hid f2
    have B2 : Hid (Below w.heap.size w w2) := Lib.hid ((below_drewN B0.out _).trans (b2.mono (by simpa using B0.out.size)))
    have R1 := Lib.hid hr1
    have R2 := Lib.hid hr2
    clear f2 b2 hr1 hr2 c0 c1 c2 c3 hne
    cases r
    case false =>
      have HNo := Lib.hid (R2.out rfl)
      go_wp2
      go_ret2
      exact ⟨none, 0, 0, false, rfl, ⟨(fun h => by cases h), fun h => absurd h HNo.out⟩, B2.out⟩
    case true =>
      obtain ⟨p2, s2⟩ := R1.out rfl
      have q5 := box_cell F2.out.box 5 (.slice A n ac) rfl
      have q4 := box_cell F2.out.box 4 (.slice X n xc) rfl
      have HNA := Lib.hid (sm_nonneg p2.an)
      have HAB : Hid (∀ k, k < n → 0 ≤ a k ∧ a k ≤ 1000000000) := Lib.hid (fun k hk => by
        have h1 := (p2.left (fun i j hi hj => (HT.out.b i j hi hj).1)).1 k (by rw [EN.out]; exact hk)
        have h2 := p2.an k (by rw [EN.out]; exact hk)
        have h3 := HRB.out k hk
        omega)
      have HVA := Lib.hid F2.out.a.ints
      have HY := Lib.hid (feas_yes p2 HS.out)
      have HN2 := Lib.hid (feas_no p2 s2)
      rw [EN.out] at HY HN2
      clear p2 s2 R1 R2
      go_wp2_with fail
      refine (tSum_any A n ac a _ HVA.out (by omega) HAB.out).mono ?_
      rintro e w9 ⟨rfl, rfl⟩
      by_cases h0 : 0 < sm n a
      case pos =>
        have HNo := Lib.hid (HN2.out h0)
        clear HY HN2
        generalize sm n a = sa at *
        go_wp2
        go_ret2
        exact ⟨none, 0, 0, false, rfl, ⟨(fun h => by cases h), fun h => absurd h HNo.out⟩, B2.out⟩
      case neg =>
        have HYes := Lib.hid (HY.out (by omega))
        clear HY HN2
        generalize sm n a = sa at *
        go_wp2
        go_ret2
        exact ⟨X, n, xc, true, rfl, ⟨fun _ => HYes.out, fun _ => rfl⟩, B2.out⟩
end

section
open Go.RowKit Flo
set_option linter.unusedVariables false

/-- The box of a network with own bounds, behind the calls that copy them. -/
def WithS (w1 wx : World) (G n m : Nat) (R C : Option Addr) (rc cc : Nat) (t : Net) : Prop := ∃ (L H : Option Addr) (lc hc p q p2 q2 : Nat), wx.heap[G]? = some (.cells #[.slice R n rc, .slice C m cc, .slice L n lc, .slice H n hc] 54 (0, 0)) ∧ Mat wx p q L n lc m t.lo ∧ Mat wx p2 q2 H n hc m t.hi ∧ q ≤ p2 ∧ w1.heap.size ≤ p ∧ w1.heap.size ≤ G ∧ (G < p ∨ q ≤ G) ∧ (G < p2 ∨ q2 ≤ G) ∧ p ≤ q ∧ p2 ≤ q2 ∧ Below w1.heap.size w1 wx
section
variable {w1 w5 w6 : World} {n m : Nat} {R C L H : Option Addr} {rc cc lc hc : Nat} {t : Net}
abbrev noT : Obj := .cells #[.slice none 0 0, .slice none 0 0, .slice none 0 0, .slice none 0 0] 54
theorem with_put {G p q p2 q2 : Nat} (hz : w6.heap[G]? = some noT) (o5 : Mat w6 p q L n lc m t.lo) (o6 : Mat w6 p2 q2 H n hc m t.hi) (h1 : q ≤ p2) (h2 : w1.heap.size ≤ p) (h3 : w1.heap.size ≤ G) (h4 : G < p ∨ q ≤ G) (h5 : G < p2 ∨ q2 ≤ G) (h6 : p ≤ q) (h7 : p2 ≤ q2) (hb : Below w1.heap.size w1 w6) :
    WithS w1 ((((w6.setCell ⟨G, 0, none⟩ (.slice R n rc)).setCell ⟨G, 1, none⟩ (.slice C m cc)).setCell ⟨G, 2, none⟩ (.slice L n lc)).setCell ⟨G, 3, none⟩ (.slice H n hc)) G n m R C rc cc t := by
  have hc : Chg G (G + 1) w6 ((((w6.setCell ⟨G, 0, none⟩ (.slice R n rc)).setCell ⟨G, 1, none⟩ (.slice C m cc)).setCell ⟨G, 2, none⟩ (.slice L n lc)).setCell ⟨G, 3, none⟩ (.slice H n hc)) := ((((Chg.refl G (G + 1) w6).set (Nat.le_refl _) (by omega)).set (Nat.le_refl _) (by omega)).set (Nat.le_refl _) (by omega)).set (Nat.le_refl _) (by omega)
  exact ⟨L, H, lc, _, p, q, p2, q2, box_set (box_set (box_set (box_set hz 0 _) 1 _) 2 _) 3 _, o5.chg hc (by omega), o6.chg hc (by omega), h1, h2, h3, h4, h5, h6, h7, hc.below hb h3 hb.size⟩
theorem with_A (o5 : Mat w5 (World.drew (w1.alloc noT)).heap.size w5.heap.size L n lc m t.lo) (b5 : Below (World.drew (w1.alloc noT)).heap.size (World.drew (w1.alloc noT)) w5) (o6 : Mat w6 w5.heap.size w6.heap.size H n hc m t.hi) (b6 : Below w5.heap.size w5 w6) :
    WithS w1 ((((w6.setCell ⟨w1.heap.size, 0, none⟩ (.slice R n rc)).setCell ⟨w1.heap.size, 1, none⟩ (.slice C m cc)).setCell ⟨w1.heap.size, 2, none⟩ (.slice L n lc)).setCell ⟨w1.heap.size, 3, none⟩ (.slice H n hc)) w1.heap.size n m R C rc cc t := by
  have e : (World.drew (w1.alloc noT)).heap.size = w1.heap.size + 1 := by simp
  rw [e] at o5
  have s5 := b5.size
  rw [e] at s5
  have s6 := b6.size
  have z0 : (World.drew (w1.alloc noT)).heap[w1.heap.size]? = some noT := heap_alloc_new w1 _
  exact with_put (box_below (box_below z0 b5) b6) (o5.below b6) o6 (Nat.le_refl _) (by omega) (Nat.le_refl _) (.inl (by omega)) (.inl (by omega)) (by omega) (by omega) (((below_new w1 noT).drew.trans (b5.mono (by omega))).trans (b6.mono (by omega)))
theorem with_B (o5 : Mat w5 (World.drew w1).heap.size w5.heap.size L n lc m t.lo) (b5 : Below (World.drew w1).heap.size (World.drew w1) w5) (o6 : Mat w6 (w5.alloc noT).heap.size w6.heap.size H n hc m t.hi) (b6 : Below (w5.alloc noT).heap.size (w5.alloc noT) w6) :
    WithS w1 ((((w6.setCell ⟨w5.heap.size, 0, none⟩ (.slice R n rc)).setCell ⟨w5.heap.size, 1, none⟩ (.slice C m cc)).setCell ⟨w5.heap.size, 2, none⟩ (.slice L n lc)).setCell ⟨w5.heap.size, 3, none⟩ (.slice H n hc)) w5.heap.size n m R C rc cc t := by
  have e : (w5.alloc noT).heap.size = w5.heap.size + 1 := by simp
  have s5 : w1.heap.size ≤ w5.heap.size := b5.size
  have s6 := b6.size
  rw [e] at o6 s6
  exact with_put (box_below (box_new w5 _ _) b6) ((o5.below (below_new _ _)).below b6) o6 (by omega) (Nat.le_refl _) s5 (.inr (Nat.le_refl _)) (.inl (by omega)) s5 s6 (((Below.refl _ w1).drew.trans b5).trans (((below_new w5 noT).mono s5).trans (b6.mono (by rw [e]; omega))))
theorem with_C (o5 : Mat w5 (World.drew w1).heap.size w5.heap.size L n lc m t.lo) (b5 : Below (World.drew w1).heap.size (World.drew w1) w5) (o6 : Mat w6 w5.heap.size w6.heap.size H n hc m t.hi) (b6 : Below w5.heap.size w5 w6) :
    WithS w1 (w6.alloc (.cells #[.slice R n rc, .slice C m cc, .slice L n lc, .slice H n hc] 54)) w6.heap.size n m R C rc cc t := by
  have s5 : w1.heap.size ≤ w5.heap.size := b5.size
  have s6 := b6.size
  exact ⟨L, H, lc, hc, _, _, _, _, box_new _ _ _, (o5.below b6).below (below_new _ _), o6.below (below_new _ _), Nat.le_refl _, Nat.le_refl _, Nat.le_trans s5 s6, .inr s6, .inr (Nat.le_refl _), s5, s6, (((Below.refl _ w1).drew.trans b5).trans (b6.mono s5)).trans ((below_new w6 _).mono (Nat.le_trans s5 s6))⟩
end
theorem keep4 {w : World} {G T : Nat} {a b c d p q r s : Value} (hne : T < G) (h0 : w.cell? ⟨T, 0, none⟩ = some p) (h1 : w.cell? ⟨T, 1, none⟩ = some q) (h2 : w.cell? ⟨T, 2, none⟩ = some r) (h3 : w.cell? ⟨T, 3, none⟩ = some s) :
    ((((w.setCell ⟨G, 0, none⟩ a).setCell ⟨G, 1, none⟩ b).setCell ⟨G, 2, none⟩ c).setCell ⟨G, 3, none⟩ d).cell? ⟨T, 0, none⟩ = some p ∧ ((((w.setCell ⟨G, 0, none⟩ a).setCell ⟨G, 1, none⟩ b).setCell ⟨G, 2, none⟩ c).setCell ⟨G, 3, none⟩ d).cell? ⟨T, 1, none⟩ = some q ∧ ((((w.setCell ⟨G, 0, none⟩ a).setCell ⟨G, 1, none⟩ b).setCell ⟨G, 2, none⟩ c).setCell ⟨G, 3, none⟩ d).cell? ⟨T, 2, none⟩ = some r ∧ ((((w.setCell ⟨G, 0, none⟩ a).setCell ⟨G, 1, none⟩ b).setCell ⟨G, 2, none⟩ c).setCell ⟨G, 3, none⟩ d).cell? ⟨T, 3, none⟩ = some s := by
  have hc : Chg G (G + 1) w ((((w.setCell ⟨G, 0, none⟩ a).setCell ⟨G, 1, none⟩ b).setCell ⟨G, 2, none⟩ c).setCell ⟨G, 3, none⟩ d) := ((((Chg.refl G (G + 1) w).set (Nat.le_refl _) (by omega)).set (Nat.le_refl _) (by omega)).set (Nat.le_refl _) (by omega)).set (Nat.le_refl _) (by omega)
  have k : ∀ {i : Nat} {v : Value}, w.cell? ⟨T, i, none⟩ = some v → ((((w.setCell ⟨G, 0, none⟩ a).setCell ⟨G, 1, none⟩ b).setCell ⟨G, 2, none⟩ c).setCell ⟨G, 3, none⟩ d).cell? ⟨T, i, none⟩ = some v := fun {i v} h => (World.cell?_of_block (a := ⟨T, i, none⟩) (hc.block T (block_lt_of_cell h) (.inl hne))).trans h
  exact ⟨k h0, k h1, k h2, k h3⟩

set_option maxRecDepth 100000 in
set_option maxHeartbeats 8000000 in
theorem tWith_any (n m i j : Nat) (a b : Int) (R C L H : Option Addr) (rc cc lc hc : Nat) (t : Net) (w : World) (en : t.n = n) (em : t.m = m) (hN : NetR w R C L H t) (h1 : 1 ≤ m) (hn : n ≤ 8) (hm : m ≤ 8) (hi : i < n) (hj : j < m) :
    Calls Try.prog 32 #[.agg #[.slice R n rc, .slice C m cc, .slice L n lc, .slice H n hc], .int .i64 i, .int .i64 j, .int .i64 a, .int .i64 b] w fun e w' => ∃ (L' H' : Option Addr) (lc' hc' : Nat), e = .returned (.agg #[.slice R n rc, .slice C m cc, .slice L' n lc', .slice H' n hc']) ∧ NetR w' R C L' H' (t.bound i j a b) ∧ Below w.heap.size w w' ∧ ∃ p q p2 q2, w.heap.size ≤ p ∧ w.heap.size ≤ p2 ∧ Mat w' p q L' n lc' m (t.bound i j a b).lo ∧ Mat w' p2 q2 H' n hc' m (t.bound i j a b).hi := by
  have EN := Lib.hid en
  have EM := Lib.hid em
  obtain ⟨b0, x0, x10⟩ := box_two w #[.slice R n rc, .slice C m cc, .slice L n lc, .slice H n hc] #[.slice none 0 0, .slice none 0 0, .slice none 0 0, .slice none 0 0] 54 54
  have B0 := Lib.hid b0
  have X0 := Lib.hid x0
  have X10 := Lib.hid x10
  have c0 := box_cell X0.out 0 (.slice R n rc) rfl
  have c1 := box_cell X0.out 1 (.slice C m cc) rfl
  have c2 := box_cell X0.out 2 (.slice L n lc) rfl
  have c3 := box_cell X0.out 3 (.slice H n hc) rfl
  have HN := Lib.hid (hN.below b0)
  have HN0 := Lib.hid hN
  clear hN en em b0 x0 x10
  go_enter Try.func32, Try.ntmps32
  go_wp2_with fail
  generalize (w.alloc (.cells #[.slice R n rc, .slice C m cc, .slice L n lc, .slice H n hc] 54)).alloc (.cells #[.slice none 0 0, .slice none 0 0, .slice none 0 0, .slice none 0 0] 54) = w1 at *
  have HL0 : Hid (MatR w1 L n m t.lo) := Lib.hid (by have := HN.out.lo; rw [EN.out, EM.out] at this; exact this)
  have HH0 : Hid (MatR w1 H n m t.hi) := Lib.hid (by have := HN.out.hi; rw [EN.out, EM.out] at this; exact this)
  have cn0 : (w1.alloc (.cells #[.slice none 0 0, .slice none 0 0, .slice none 0 0, .slice none 0 0] 54)).cell? ⟨w.heap.size, 0, none⟩ = some (.slice R n rc) := cell_new c0
  have cn1 : (w1.alloc (.cells #[.slice none 0 0, .slice none 0 0, .slice none 0 0, .slice none 0 0] 54)).cell? ⟨w.heap.size, 1, none⟩ = some (.slice C m cc) := cell_new c1
  have cn2 : (w1.alloc (.cells #[.slice none 0 0, .slice none 0 0, .slice none 0 0, .slice none 0 0] 54)).cell? ⟨w.heap.size, 2, none⟩ = some (.slice L n lc) := cell_new c2
  have cn3 : (w1.alloc (.cells #[.slice none 0 0, .slice none 0 0, .slice none 0 0, .slice none 0 0] 54)).cell? ⟨w.heap.size, 3, none⟩ = some (.slice H n hc) := cell_new c3
  have hg1 : w.heap.size < w1.heap.size := lt_of_block X0.out
  have d0 : (World.drew w1).cell? ⟨w.heap.size, 0, none⟩ = some (.slice R n rc) := c0
  have d1 : (World.drew w1).cell? ⟨w.heap.size, 1, none⟩ = some (.slice C m cc) := c1
  have d2 : (World.drew w1).cell? ⟨w.heap.size, 2, none⟩ = some (.slice L n lc) := c2
  have d3 : (World.drew w1).cell? ⟨w.heap.size, 3, none⟩ = some (.slice H n hc) := c3
  have dn0 : (World.drew (w1.alloc (.cells #[.slice none 0 0, .slice none 0 0, .slice none 0 0, .slice none 0 0] 54))).cell? ⟨w.heap.size, 0, none⟩ = some (.slice R n rc) := cn0
  have dn1 : (World.drew (w1.alloc (.cells #[.slice none 0 0, .slice none 0 0, .slice none 0 0, .slice none 0 0] 54))).cell? ⟨w.heap.size, 1, none⟩ = some (.slice C m cc) := cn1
  have dn2 : (World.drew (w1.alloc (.cells #[.slice none 0 0, .slice none 0 0, .slice none 0 0, .slice none 0 0] 54))).cell? ⟨w.heap.size, 2, none⟩ = some (.slice L n lc) := cn2
  have dn3 : (World.drew (w1.alloc (.cells #[.slice none 0 0, .slice none 0 0, .slice none 0 0, .slice none 0 0] 54))).cell? ⟨w.heap.size, 3, none⟩ = some (.slice H n hc) := cn3
  have KL := Lib.hid (fun (W : World) (hb : Below w1.heap.size w1 W) => tOwn_any L n lc m t.lo W (IntsS.below HL0.out hb) (by omega) h1 (by omega))
  have KH := Lib.hid (fun (W : World) (hb : Below w1.heap.size w1 W) => tOwn_any H n hc m t.hi W (IntsS.below HH0.out hb) (by omega) h1 (by omega))
  go_cut [11] (fun v11 wx => ∃ G, v11 = .pointer (some ⟨G, 0, none⟩) ∧ WithS w1 wx G n m R C rc cc t)
  case first =>
    go_region_held3 (fun w' => w'.cell? ⟨w.heap.size, 0, none⟩ = some (.slice R n rc) ∧ w'.cell? ⟨w.heap.size, 1, none⟩ = some (.slice C m cc) ∧ w'.cell? ⟨w.heap.size, 2, none⟩ = some (.slice L n lc) ∧ w'.cell? ⟨w.heap.size, 3, none⟩ = some (.slice H n hc)) (first | with_reducible exact ⟨pn0, pn1, pn2, pn3⟩ | with_reducible exact ⟨p0, p1, p2, p3⟩ | with_reducible exact ⟨qn0, qn1, qn2, qn3⟩ | with_reducible exact ⟨q0, q1, q2, q3⟩ | with_reducible exact ⟨dn0, dn1, dn2, dn3⟩ | with_reducible exact ⟨d0, d1, d2, d3⟩ | with_reducible exact ⟨cn0, cn1, cn2, cn3⟩ | with_reducible exact ⟨c0, c1, c2, c3⟩ | with_reducible exact keep4 hg5 p0 p1 p2 p3 | with_reducible exact keep4 hg1 p0 p1 p2 p3 | with_reducible exact ⟨cell_new p0, cell_new p1, cell_new p2, cell_new p3⟩ | go_keep) (first
      | (go_simp; go_at_call 68; (with_reducible refine (KL.out _ ?_).mono ?_); (first | exact (Below.refl _ _).drew | exact (below_new _ _).drew); rintro e w5 ⟨L', lc', rfl, o5, b5⟩; have B5 : Hid (Below w1.heap.size w1 w5) := Lib.hid (by first | exact (Below.refl _ _).drew.trans b5 | exact (below_new _ _).drew.trans (b5.mono (by simp))); have hg5 : w.heap.size < w5.heap.size := Nat.lt_of_lt_of_le hg1 B5.out.size; have q0 := cellLater c0 B5.out; have q1 := cellLater c1 B5.out; have q2 := cellLater c2 B5.out; have q3 := cellLater c3 B5.out; have qn0 : (w5.alloc (.cells #[.slice none 0 0, .slice none 0 0, .slice none 0 0, .slice none 0 0] 54)).cell? ⟨w.heap.size, 0, none⟩ = some (.slice R n rc) := cell_new q0; have qn1 : (w5.alloc (.cells #[.slice none 0 0, .slice none 0 0, .slice none 0 0, .slice none 0 0] 54)).cell? ⟨w.heap.size, 1, none⟩ = some (.slice C m cc) := cell_new q1; have qn2 : (w5.alloc (.cells #[.slice none 0 0, .slice none 0 0, .slice none 0 0, .slice none 0 0] 54)).cell? ⟨w.heap.size, 2, none⟩ = some (.slice L n lc) := cell_new q2; have qn3 : (w5.alloc (.cells #[.slice none 0 0, .slice none 0 0, .slice none 0 0, .slice none 0 0] 54)).cell? ⟨w.heap.size, 3, none⟩ = some (.slice H n hc) := cell_new q3; dsimp only)
      | (go_simp; go_at_call 68; (with_reducible refine (KH.out _ ?_).mono ?_); (first | exact B5.out | exact B5.out.alloc B5.out.size _); rintro e w6 ⟨H', hc', rfl, o6, b6⟩; have B6 : Hid (Below w5.heap.size w5 w6) := Lib.hid (by first | exact b6 | exact (below_new _ _).trans (b6.mono (by simp))); have p0 := cellLater q0 B6.out; have p1 := cellLater q1 B6.out; have p2 := cellLater q2 B6.out; have p3 := cellLater q3 B6.out; have pn0 : (w6.alloc (.cells #[.slice none 0 0, .slice none 0 0, .slice none 0 0, .slice none 0 0] 54)).cell? ⟨w.heap.size, 0, none⟩ = some (.slice R n rc) := cell_new p0; have pn1 : (w6.alloc (.cells #[.slice none 0 0, .slice none 0 0, .slice none 0 0, .slice none 0 0] 54)).cell? ⟨w.heap.size, 1, none⟩ = some (.slice C m cc) := cell_new p1; have pn2 : (w6.alloc (.cells #[.slice none 0 0, .slice none 0 0, .slice none 0 0, .slice none 0 0] 54)).cell? ⟨w.heap.size, 2, none⟩ = some (.slice L n lc) := cell_new p2; have pn3 : (w6.alloc (.cells #[.slice none 0 0, .slice none 0 0, .slice none 0 0, .slice none 0 0] 54)).cell? ⟨w.heap.size, 3, none⟩ = some (.slice H n hc) := cell_new p3; (first | (have zA := box_below (box_below (show (World.drew (w1.alloc noT)).heap[w1.heap.size]? = some noT from heap_alloc_new w1 _) b5) b6; have y0 := box_cell zA 0 _ rfl; have y1 := box_cell zA 1 _ rfl; have y2 := box_cell zA 2 _ rfl; have y3 := box_cell zA 3 _ rfl; have f0 := box_free zA 0; have f1 := box_free zA 1; have f2 := box_free zA 2; have f3 := box_free zA 3) | (have zA := box_below (box_new w5 _ _) b6; have y0 := box_cell zA 0 _ rfl; have y1 := box_cell zA 1 _ rfl; have y2 := box_cell zA 2 _ rfl; have y3 := box_cell zA 3 _ rfl; have f0 := box_free zA 0; have f1 := box_free zA 1; have f2 := box_free zA 2; have f3 := box_free zA 3) | skip); dsimp only)
      | fail)
    all_goals (go_wp2_with fail; go_meet)
    all_goals first | with_reducible exact ⟨_, rfl, with_A o5 b5 o6 b6⟩ | with_reducible exact ⟨_, rfl, with_B o5 b5 o6 b6⟩ | with_reducible exact ⟨_, rfl, with_C o5 b5 o6 b6⟩
  case rest =>
    obtain ⟨G, rfl, L', H', lc', hc', p, q, p2, q2, hG, oL, oH, hqp, hp1, hG1, hGp, hGp2, hpq, hpq2, hbc⟩ := hcut
    clear KL KH c0 c1 c2 c3 cn0 cn1 cn2 cn3 d0 d1 d2 d3 dn0 dn1 dn2 dn3
    have hz10 := lt_of_block X10.out
    have hx10 := box_below X10.out hbc
    obtain ⟨gl0, gl, cl, rfl, l1, l2, l3, m1, m2, m3, m4, m5, m6, m7, backL⟩ := mat_cell oL hi hj
    have hcL : Chg p q wc (wc.setCell ⟨gl, j, none⟩ (.int .i64 a)) := (Chg.refl p q wc).set m1 m2
    have HGL := Lib.hid (box_chg hG hcL (by omega))
    have HXL := Lib.hid (box_chg hx10 hcL (by omega))
    have OL := Lib.hid (backL a)
    have OH := Lib.hid (oH.chg hcL (.inr hqp))
    have HBL := Lib.hid (hcL.below hbc hp1 hbc.size)
    have g2 := box_cell hG 2 (.slice (some ⟨gl0, 0, none⟩) n lc') rfl
    clear hcL hx10 oL oH backL hbc m3 m4 m5 m6 m7 hG
    go_upto_region 3 with (fail)
    clear g2 l1 l2 l3
    generalize wc.setCell ⟨gl, j, none⟩ (.int .i64 a) = wL at *
    obtain ⟨gh0, gh, ch, rfl, k1, k2, k3, n1, n2, n3, n4, n5, n6, n7, backH⟩ := mat_cell OH.out hi hj
    have hcH : Chg p2 q2 wL (wL.setCell ⟨gh, j, none⟩ (.int .i64 b)) := (Chg.refl p2 q2 _).set n1 n2
    have HGH := Lib.hid (box_chg HGL.out hcH (by omega))
    have HXH := Lib.hid (box_chg HXL.out hcH (by omega))
    have OL2 := Lib.hid (OL.out.chg hcH (.inl hqp))
    have OH2 := Lib.hid (backH b)
    have HBH := Lib.hid (hcH.below HBL.out (by omega) HBL.out.size)
    have g3 := box_cell HGL.out 3 (.slice (some ⟨gh0, 0, none⟩) n hc') rfl
    clear hcH OH OL HGL HXL HBL backH n3 n4 n5 n6 n7
    go_upto_region 4 with (fail)
    clear g3 k1 k2 k3
    generalize wL.setCell ⟨gh, j, none⟩ (.int .i64 b) = wH at *
    have e0 := box_cell HGH.out 0 (.slice R n rc) rfl
    have e1 := box_cell HGH.out 1 (.slice C m cc) rfl
    have e2 := box_cell HGH.out 2 (.slice (some ⟨gl0, 0, none⟩) n lc') rfl
    have e3 := box_cell HGH.out 3 (.slice (some ⟨gh0, 0, none⟩) n hc') rfl
    have z0 := box_cell HXH.out 0 (.slice none 0 0) rfl
    have z1 := box_cell HXH.out 1 (.slice none 0 0) rfl
    have z2 := box_cell HXH.out 2 (.slice none 0 0) rfl
    have z3 := box_cell HXH.out 3 (.slice none 0 0) rfl
    have y0 := box_free HXH.out 0
    have y1 := box_free HXH.out 1
    have y2 := box_free HXH.out 2
    have y3 := box_free HXH.out 3
    have hcF : Chg (w.heap.size + 1) (w.heap.size + 2) wH ((((wH.setCell ⟨w.heap.size + 1, 0, none⟩ (.slice R n rc)).setCell ⟨w.heap.size + 1, 1, none⟩ (.slice C m cc)).setCell ⟨w.heap.size + 1, 2, none⟩ (.slice (some ⟨gl0, 0, none⟩) n lc')).setCell ⟨w.heap.size + 1, 3, none⟩ (.slice (some ⟨gh0, 0, none⟩) n hc')) := ((((Chg.refl _ _ wH).set (Nat.le_refl _) (by omega)).set (Nat.le_refl _) (by omega)).set (Nat.le_refl _) (by omega)).set (Nat.le_refl _) (by omega)
    have hbF := hcF.below (B0.out.trans (HBH.out.mono B0.out.size)) (Nat.le_succ _) (Nat.le_trans B0.out.size HBH.out.size)
    have HFin := Lib.hid (show NetR _ R C (some ⟨gl0, 0, none⟩) (some ⟨gh0, 0, none⟩) (t.bound i j a b) ∧ Below w.heap.size w _ ∧ ∃ p q p2 q2, w.heap.size ≤ p ∧ w.heap.size ≤ p2 ∧ Mat _ p q (some ⟨gl0, 0, none⟩) n lc' m (t.bound i j a b).lo ∧ Mat _ p2 q2 (some ⟨gh0, 0, none⟩) n hc' m (t.bound i j a b).hi from ⟨⟨(HN0.out.below hbF).r, (HN0.out.below hbF).c, (by
      have h := (OL2.out.chg hcF (.inr (by omega))).read
      have e1 : (t.bound i j a b).n = n := EN.out
      have e2 : (t.bound i j a b).m = m := EM.out
      rw [e1, e2]
      exact h), (by
      have h := (OH2.out.chg hcF (.inr (by omega))).read
      have e1 : (t.bound i j a b).n = n := EN.out
      have e2 : (t.bound i j a b).m = m := EM.out
      rw [e1, e2]
      exact h)⟩, hbF, p, q, p2, q2, by omega, by omega, OL2.out.chg hcF (.inr (by omega)), OH2.out.chg hcF (.inr (by omega))⟩)
    have r0 := box_cell (box_set (box_set (box_set (box_set HXH.out 0 (.slice R n rc)) 1 (.slice C m cc)) 2 (.slice (some ⟨gl0, 0, none⟩) n lc')) 3 (.slice (some ⟨gh0, 0, none⟩) n hc')) 0 (.slice R n rc) rfl
    have r1 := box_cell (box_set (box_set (box_set (box_set HXH.out 0 (.slice R n rc)) 1 (.slice C m cc)) 2 (.slice (some ⟨gl0, 0, none⟩) n lc')) 3 (.slice (some ⟨gh0, 0, none⟩) n hc')) 1 (.slice C m cc) rfl
    have r2 := box_cell (box_set (box_set (box_set (box_set HXH.out 0 (.slice R n rc)) 1 (.slice C m cc)) 2 (.slice (some ⟨gl0, 0, none⟩) n lc')) 3 (.slice (some ⟨gh0, 0, none⟩) n hc')) 2 (.slice (some ⟨gl0, 0, none⟩) n lc') rfl
    have r3 := box_cell (box_set (box_set (box_set (box_set HXH.out 0 (.slice R n rc)) 1 (.slice C m cc)) 2 (.slice (some ⟨gl0, 0, none⟩) n lc')) 3 (.slice (some ⟨gh0, 0, none⟩) n hc')) 3 (.slice (some ⟨gh0, 0, none⟩) n hc') rfl
    clear hcF hbF HXH HGH OL2 OH2 HBH
    go_wp2
    refine bodyPost_ret (v := .agg #[.slice R n rc, .slice C m cc, .slice (some ⟨gl0, 0, none⟩) n lc', .slice (some ⟨gh0, 0, none⟩) n hc']) (by simp [results, Try.results32, go_sem, r0, r1, r2, r3]) rfl ⟨_, _, lc', hc', rfl, HFin.out.1, HFin.out.2⟩
end
end Go.Proofs.Ytcjmapdeopffcaa
