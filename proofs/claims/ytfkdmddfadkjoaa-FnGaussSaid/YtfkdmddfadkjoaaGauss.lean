/- Gaussian noise: the model, and the program's. -/
import Derived.Test.YtfkdmddfadkjoaaAccK
import Derived.Test.YtfkdmddfadkjoaaKLap
namespace Go.Proofs.Ytfkdmddfadkjoaa
open Go.RowKit

/-- Tries for a noise. -/
def gauT (s p q : Int) : Nat → Int → Option (Int × Int)
  | 0, _ => none
  | k + 1, a => match lapM s (scaleM p q : Nat) a with
    | none => none
    | some (y, b) => match accM p q y with
      | none => none
      | some (n, d) => match expM s n d b with
        | none => none
        | some (true, c) => some (y, c)
        | some (false, c) => gauT s p q k c
theorem gauT_1 {s p q a : Int} {k : Nat} (h : lapM s (scaleM p q : Nat) a = none) : gauT s p q (k + 1) a = none := by simp only [gauT, h]
theorem gauT_2 {s p q a y b : Int} {k : Nat} (h : lapM s (scaleM p q : Nat) a = some (y, b)) (h2 : accM p q y = none) : gauT s p q (k + 1) a = none := by simp only [gauT, h, h2]
theorem gauT_3 {s p q a y b n d : Int} {k : Nat} (h : lapM s (scaleM p q : Nat) a = some (y, b)) (h2 : accM p q y = some (n, d)) (h3 : expM s n d b = none) : gauT s p q (k + 1) a = none := by simp only [gauT, h, h2, h3]
theorem gauT_4 {s p q a y b n d c : Int} {k : Nat} (h : lapM s (scaleM p q : Nat) a = some (y, b)) (h2 : accM p q y = some (n, d)) (h3 : expM s n d b = some (true, c)) : gauT s p q (k + 1) a = some (y, c) := by simp only [gauT, h, h2, h3]
theorem gauT_5 {s p q a y b n d c : Int} {k : Nat} (h : lapM s (scaleM p q : Nat) a = some (y, b)) (h2 : accM p q y = some (n, d)) (h3 : expM s n d b = some (false, c)) : gauT s p q (k + 1) a = gauT s p q k c := by simp only [gauT, h, h2, h3]
def gauM (s p q a : Int) : Option (Int × Int) := gauT s p q 200 a

theorem gauT_bd {s p q a a' v : Int} {k : Nat} (hs : sigmaB p q = true) (h : gauT s p q k a = some (v, a')) (h0 : 0 ≤ a) (h1 : a ≤ 1000000) : -1000000 ≤ v ∧ v ≤ 1000000 ∧ 0 ≤ a' ∧ a' ≤ 1000000 := by
  have hb := scaleM_bd hs
  induction k generalizing a with
  | zero => cases h
  | succ k ih =>
    cases h2 : lapM s (scaleM p q : Nat) a with
    | none => rw [gauT_1 h2] at h; cases h
    | some r =>
      obtain ⟨y, b⟩ := r
      have hy := lapM_bd (by omega) (by omega) h2 h0 h1
      cases h3 : accM p q y with
      | none => rw [gauT_2 h2 h3] at h; cases h
      | some r =>
        obtain ⟨n, d⟩ := r
        cases h4 : expM s n d b with
        | none => rw [gauT_3 h2 h3 h4] at h; cases h
        | some r =>
          obtain ⟨u, c⟩ := r
          have he := expM_bd h4 hy.2.2.1 hy.2.2.2
          cases u
          · rw [gauT_5 h2 h3 h4] at h
            exact ih h he.1 he.2
          · rw [gauT_4 h2 h3 h4] at h
            simp only [Option.some.injEq, Prod.mk.injEq] at h
            omega
theorem gauM_bd {s p q a a' v : Int} (hs : sigmaB p q = true) (h : gauM s p q a = some (v, a')) (h0 : 0 ≤ a) (h1 : a ≤ 1000000) : -1000000 ≤ v ∧ v ≤ 1000000 ∧ 0 ≤ a' ∧ a' ≤ 1000000 := gauT_bd hs h h0 h1
/-- The exponent is a valid fraction of at least 0. -/
theorem accM_nn {p q y n d : Int} (hs : sigmaB p q = true) (h : accM p q y = some (n, d)) : fracB n d = true ∧ 0 ≤ n := by
  obtain ⟨hf, hp, _⟩ := sigmaB_of hs
  have hq := (fracB_of hf).1
  cases h1 : divO p q (scaleM p q : Nat) 1 with
  | none => rw [accM_1 h1] at h; cases h
  | some r =>
    obtain ⟨m, k⟩ := r
    cases h2 : subO (absI y) 1 m k with
    | none => rw [accM_2 h1 h2] at h; cases h
    | some r =>
      obtain ⟨u, v⟩ := r
      cases h3 : mulO u v u v with
      | none => rw [accM_3 h1 h2 h3] at h; cases h
      | some r =>
        obtain ⟨a, b⟩ := r
        rw [accM_4 h1 h2 h3] at h
        have hs := mulO_sq h3 (fracB_of (redO_frac h2)).1
        exact ⟨redO_frac h, quo_sign h hs.1 hq hs.2.2.1 hp⟩

set_option maxRecDepth 100000 in
set_option maxHeartbeats 4000000 in
theorem gauss_any (g : Nat) (s a p q : Int) (w : World) (h : StrAt w g s a) (h0 : 0 ≤ a) (h1 : a ≤ 1000000) (hsg : sigmaB p q = true) :
    Calls Try.prog 91 #[.pointer (some ⟨g, 0, none⟩), .agg #[.int .i64 p, .int .i64 q]] w (SPost (Value.int .i64) g s (gauM s p q a) w) := by
  have hlt := h.lt
  have HS := Lib.hid hsg
  have hts := scaleM_bd hsg
  have HR := Lib.hid (show gauM s p q a = gauT s p q 200 a from rfl)
  have G1 := Lib.hid (fun k a => gauT_1 (s := s) (p := p) (q := q) (k := k) (a := a))
  have G2 := Lib.hid (fun k a y b => gauT_2 (s := s) (p := p) (q := q) (k := k) (a := a) (y := y) (b := b))
  have G3 := Lib.hid (fun k a y b n d => gauT_3 (s := s) (p := p) (q := q) (k := k) (a := a) (y := y) (b := b) (n := n) (d := d))
  have G4 := Lib.hid (fun k a y b n d c => gauT_4 (s := s) (p := p) (q := q) (k := k) (a := a) (y := y) (b := b) (n := n) (d := d) (c := c))
  have G5 := Lib.hid (fun k a y b n d c => gauT_5 (s := s) (p := p) (q := q) (k := k) (a := a) (y := y) (b := b) (n := n) (d := d) (c := c))
  have HSc := Lib.hid (fun w => scaleFor_any p q w HS.out)
  have HZ : Hid (∀ b, gauT s p q 0 b = none) := Lib.hid fun _ => rfl
  generalize gauM s p q a = R at *
  generalize gauT s p q = T at *
  generalize scaleM p q = t at *
  have ht1 := hts.1
  have ht2 := hts.2
  clear hts hsg
  have x0 := box_new w #[.int .i64 p, .int .i64 q] 28
  have b0 := below_new w (.cells #[.int .i64 p, .int .i64 q] 28)
  have hC := (Chg.refl g (g + 1) w).alloc (.cells #[.int .i64 p, .int .i64 q] 28)
  replace h := h.below b0
  go_enter Try.func91, Try.ntmps91
  go_wp2_with fail
  generalize w.alloc (.cells #[.int .i64 p, .int .i64 q] 28) = w0 at *
  refine (HSc.out _).mono ?_
  rintro e w1 ⟨rfl, _, _, b1⟩
  replace x0 := box_below x0 b1
  replace h := h.below b1
  replace hC := hC.then_ b1
  clear b0 b1 HSc
  go_wp2_with fail
  go_loopw [13] (fun i wr => ∃ (k : Nat) (b : Int), k ≤ 200 ∧ i = .int .i64 k ∧ Hid (R = T (200 - k) b) ∧ StrAt wr g s b ∧ 0 ≤ b ∧ b ≤ 1000000 ∧ wr.heap[w.heap.size]? = some (.cells #[.int .i64 p, .int .i64 q] 28 (0, 0)) ∧ Chg g (g + 1) w wr) (fun i _ => 200 - (intOf i).toNat)
  case atStart => exact ⟨0, a, by omega, rfl, HR, h, h0, h1, x0, hC⟩
  case round =>
    clear h x0 hC
    obtain ⟨k, b, hk, rfl, hx, hs, hb0, hb1, x0, hC⟩ := hrel
    have l0 := lt_of_block x0
    by_cases hlt2 : k < 200
    · have hs200 : 200 - k = (199 - k) + 1 := by omega
      rw [hs200] at hx
      clear hs200
      go_wp2_with fail
      refine (laplace_any _ _ _ _ _ hs hb0 hb1 (by omega) (by omega)).mono ?_
      rintro e w2 ⟨hyes, hno, hc⟩
      replace x0 := box_chg x0 hc (.inr (by omega))
      replace hC := hC.trans hc
      clear hc hs
      cases hM : lapM s (t : Int) b with
      | none =>
        obtain ⟨z, b2, rfl, hs2⟩ := hno hM
        have E := Lib.hid (hx.out.trans (G1.out _ _ hM))
        clear hyes hno hM
        go_wp2
        go_ret2
        exact SPost.no E.out hs2 hC
      | some r =>
        obtain ⟨y, b2⟩ := r
        obtain ⟨rfl, hs2⟩ := hyes y b2 hM
        have hb := lapM_bd (by omega) (by omega) hM hb0 hb1
        have hy : sm y := sm_of (by omega) (by omega)
        have hb20 := hb.2.2.1
        have hb21 := hb.2.2.2
        have HM := Lib.hid hM
        clear hyes hno hM hb
        have c0 := box_cell x0 0 _ rfl
        have c1 := box_cell x0 1 _ rfl
        go_wp2_with fail
        refine (acceptExponent_any _ _ _ _ HS.out hy).mono ?_
        rintro e w3 ⟨rfl, b3⟩
        clear c0 c1
        replace x0 := box_below x0 b3
        replace hC := hC.then_ b3
        replace hs2 := hs2.below b3
        clear b3
        cases hA : accM p q y with
        | none =>
          have E := Lib.hid (hx.out.trans (G2.out _ _ _ _ HM.out hA))
          simp only [fN, fD, fB]
          clear hA
          go_wp2
          go_ret2
          exact SPost.no E.out (hs2.below (below_new _ _)) (hC.then_ (below_new _ _))
        | some r =>
          obtain ⟨n, d⟩ := r
          have hn := accM_nn HS.out hA
          have hf := fracB_of hn.1
          have hn0 := hn.2
          have hns : sm n := sm_of (by omega) (by omega)
          have hd1 := hf.1
          have hd2 := hf.2.1
          have HA := Lib.hid hA
          clear hn hf hA
          simp only [fN, fD, fB]
          go_wp2_with fail
          have b4 := below_new w3 (.cells #[.int .i64 n, .int .i64 d] 28)
          replace x0 := box_below x0 b4
          replace hC := hC.then_ b4
          replace hs2 := hs2.below b4
          clear b4
          generalize w3.alloc (.cells #[.int .i64 n, .int .i64 d] 28) = w4 at *
          have l4 := lt_of_block x0
          refine (expCoin_any _ _ _ _ _ _ hs2 hb20 hb21 hns hn0 hd1 hd2).mono ?_
          rintro e w5 ⟨hyes, hno, hc⟩
          replace x0 := box_chg x0 hc (.inr (by omega))
          replace hC := hC.trans hc
          clear hc hs2
          cases hE : expM s n d b2 with
          | none =>
            obtain ⟨z, b3, rfl, hs3⟩ := hno hE
            have E := Lib.hid (hx.out.trans (G3.out _ _ _ _ _ _ HM.out HA.out hE))
            clear hyes hno hE
            go_wp2
            go_ret2
            exact SPost.no E.out hs3 hC
          | some r =>
            obtain ⟨u, b3⟩ := r
            obtain ⟨rfl, hs3⟩ := hyes u b3 hE
            have he := expM_bd hE hb20 hb21
            have he0 := he.1
            have he1 := he.2
            have HE := Lib.hid hE
            clear hyes hno hE he
            cases u
            · have E := Lib.hid (hx.out.trans (G5.out _ _ _ _ _ _ _ HM.out HA.out HE.out))
              go_wp2
              go_roundw
              case rel => exact ⟨k + 1, b3, by omega, by go_num, by rw [show 200 - (k + 1) = 199 - k by omega]; exact E, hs3, he0, he1, x0, hC⟩
              case measure => simp [intOf]; omega
            · have E := Lib.hid (hx.out.trans (G4.out _ _ _ _ _ _ _ HM.out HA.out HE.out))
              go_wp2
              go_ret2
              exact SPost.yes E.out hs3 hC
    · have E : Hid (R = none) := Lib.hid (by rw [hx.out, show 200 - k = 0 by omega]; exact HZ.out b)
      go_wp2
      go_ret2
      exact SPost.no E.out hs hC
end Go.Proofs.Ytfkdmddfadkjoaa
