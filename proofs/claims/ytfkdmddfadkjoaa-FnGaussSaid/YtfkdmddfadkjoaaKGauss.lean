/- Gaussian noise: the reference's. -/
import Derived.Test.YtfkdmddfadkjoaaGauss
namespace Go.Proofs.Ytfkdmddfadkjoaa
open Go.RowKit

/-- What the reference's Gaussian noise leaves: behind a failure some small number. -/
def KPostG (g : Nat) (s : Int) (r : Option (Int × Int)) (w : World) (e : Ending) (w' : World) : Prop :=
  (∀ v a', r = some (v, a') → e = .returned (.int .i64 v) ∧ RdrAt w' g s a' true) ∧ (r = none → ∃ z : Int, e = .returned (.int .i64 z) ∧ -1000000 ≤ z ∧ z ≤ 1000000 ∧ ∃ a', RdrAt w' g s a' false ∧ 0 ≤ a' ∧ a' ≤ 1000000) ∧ Chg g (g + 1) w w'
theorem KPostG.yes {g : Nat} {s : Int} {r : Option (Int × Int)} {w w' : World} {v a' : Int} (h : r = some (v, a')) (hs : RdrAt w' g s a' true) (hc : Chg g (g + 1) w w') : KPostG g s r w (.returned (.int .i64 v)) w' :=
  ⟨fun v2 a2 h2 => (by rw [h] at h2; simp only [Option.some.injEq, Prod.mk.injEq] at h2; obtain ⟨rfl, rfl⟩ := h2; exact ⟨rfl, hs⟩), fun h2 => (by rw [h] at h2; cases h2), hc⟩
theorem KPostG.no {z : Int} {g : Nat} {s : Int} {r : Option (Int × Int)} {w w' : World} {a' : Int} (h : r = none) (hz0 : -1000000 ≤ z) (hz1 : z ≤ 1000000) (hs : RdrAt w' g s a' false) (h0 : 0 ≤ a') (h1 : a' ≤ 1000000) (hc : Chg g (g + 1) w w') : KPostG g s r w (.returned (.int .i64 z)) w' :=
  ⟨fun v2 a2 h2 => (by rw [h] at h2; cases h2), fun _ => ⟨z, rfl, hz0, hz1, a', hs, h0, h1⟩, hc⟩

set_option maxRecDepth 100000 in
set_option maxHeartbeats 4000000 in
theorem kgauss_any (g : Nat) (s a p q : Int) (w : World) (h : RdrAt w g s a true) (h0 : 0 ≤ a) (h1 : a ≤ 1000000) (hsg : sigmaB p q = true) :
    Calls Try.prog 89 #[.pointer (some ⟨g, 0, none⟩), .agg #[.int .i64 p, .int .i64 q]] w (KPostG g s (gauM s p q a) w) := by
  have hlt := h.lt
  have HS := Lib.hid hsg
  have hts := scaleM_bd hsg
  have HR := Lib.hid (show gauM s p q a = gauT s p q 200 a from rfl)
  have G1 := Lib.hid (fun k a => gauT_1 (s := s) (p := p) (q := q) (k := k) (a := a))
  have G2 := Lib.hid (fun k a y b => gauT_2 (s := s) (p := p) (q := q) (k := k) (a := a) (y := y) (b := b))
  have G3 := Lib.hid (fun k a y b n d => gauT_3 (s := s) (p := p) (q := q) (k := k) (a := a) (y := y) (b := b) (n := n) (d := d))
  have G4 := Lib.hid (fun k a y b n d c => gauT_4 (s := s) (p := p) (q := q) (k := k) (a := a) (y := y) (b := b) (n := n) (d := d) (c := c))
  have G5 := Lib.hid (fun k a y b n d c => gauT_5 (s := s) (p := p) (q := q) (k := k) (a := a) (y := y) (b := b) (n := n) (d := d) (c := c))
  have HSc := Lib.hid (fun w => yScale_any p q w HS.out)
  have HZ : Hid (∀ b, gauT s p q 0 b = none) := Lib.hid fun _ => rfl
  generalize gauM s p q a = R at *
  generalize gauT s p q = T at *
  generalize scaleM p q = t at *
  have ht1 := hts.1
  have ht2 := hts.2
  clear hts hsg
  have x0 := box_new w #[.int .i64 p, .int .i64 q] 28
  have b0 := below_new w (.cells #[.int .i64 p, .int .i64 q] 28)
  have hC := (Chg.refl g (g + 1) w).alloc (.cells #[.int .i64 p, .int .i64 q] 28)
  replace h := h.below b0
  go_enter Try.func89, Try.ntmps89
  go_wp2_with fail
  generalize w.alloc (.cells #[.int .i64 p, .int .i64 q] 28) = w0 at *
  refine (HSc.out _).mono ?_
  rintro e w1 ⟨rfl, _, _, b1⟩
  replace x0 := box_below x0 b1
  replace h := h.below b1
  replace hC := hC.then_ b1
  clear b0 b1 HSc
  go_wp2_with fail
  go_loopw [6] (fun i wr => ∃ (k : Nat) (b : Int) (okj : Bool), k ≤ 200 ∧ i = .int .i64 k ∧ Hid ((okj = true → R = T (200 - k) b) ∧ (okj = false → R = none)) ∧ RdrAt wr g s b okj ∧ 0 ≤ b ∧ b ≤ 1000000 ∧ wr.heap[w.heap.size]? = some (.cells #[.int .i64 p, .int .i64 q] 28 (0, 0)) ∧ Chg g (g + 1) w wr) (fun i _ => 200 - (intOf i).toNat)
  case atStart => exact ⟨0, a, true, by omega, rfl, Lib.hid ⟨fun _ => HR.out, fun h9 => (by cases h9)⟩, h, h0, h1, x0, hC⟩
  case round =>
    clear h x0 hC
    obtain ⟨k, b, okj, hk, rfl, hx, hs, hb0, hb1, x0, hC⟩ := hrel
    have l0 := lt_of_block x0
    have hgw := hs.lt
    have c2 := box_cell hs 2 _ rfl
    have f2 := box_free hs 2
    by_cases hlt2 : k < 200
    · cases okj
      · have E := Lib.hid (hx.out.2 rfl)
        have k3 : RdrAt (wr.setCell ⟨g, 2, none⟩ (.bool false)) g s b false := box_set hs 2 _
        have K3 := Lib.hid (hC.set (g := g) (i := 2) (v := .bool false) (Nat.le_refl _) (by omega))
        go_wp2
        go_ret
        exact KPostG.no E.out (by omega) (by omega) k3 hb0 hb1 K3.out
      · have hs200 : 200 - k = (199 - k) + 1 := by omega
        replace hx := Lib.hid (hx.out.1 rfl)
        rw [hs200] at hx
        clear hs200
        go_wp2_with fail
        refine (klaplace_any _ _ _ _ _ hs hb0 hb1 (by omega) (by omega)).mono ?_
        rintro e w2 ⟨hyes, hno, hc⟩
        replace x0 := box_chg x0 hc (.inr (by omega))
        replace hC := hC.trans hc
        clear hc hs c2 f2
        cases hM : lapM s (t : Int) b with
        | none =>
          obtain ⟨rfl, b2, hs2, hb20, hb21⟩ := hno hM
          have E := Lib.hid (hx.out.trans (G1.out _ _ hM))
          have c2 := box_cell hs2 2 _ rfl
          clear hyes hno hM
          go_wp2
          go_ret
          exact KPostG.no E.out (by omega) (by omega) hs2 hb20 hb21 hC
        | some r =>
          obtain ⟨y, b2⟩ := r
          obtain ⟨rfl, hs2⟩ := hyes y b2 hM
          have hb := lapM_bd (by omega) (by omega) hM hb0 hb1
          have hy0 := hb.1
          have hy1 := hb.2.1
          have hy : sm y := sm_of (by omega) (by omega)
          have hb20 := hb.2.2.1
          have hb21 := hb.2.2.2
          have HM := Lib.hid hM
          clear hyes hno hM hb
          have c0 := box_cell x0 0 _ rfl
          have c1 := box_cell x0 1 _ rfl
          have c2 := box_cell hs2 2 _ rfl
          go_wp2_with fail
          refine (yAccept_any _ _ _ _ HS.out hy).mono ?_
          rintro e w3 ⟨rfl, b3⟩
          clear c0 c1 c2
          replace x0 := box_below x0 b3
          replace hC := hC.then_ b3
          replace hs2 := hs2.below b3
          clear b3
          cases hA : accM p q y with
          | none =>
            have E := Lib.hid (hx.out.trans (G2.out _ _ _ _ HM.out hA))
            simp only [fN, fD, fB]
            clear hA
            have c2 := box_cell hs2 2 _ rfl
            have f2 := box_free hs2 2
            have l2 := hs2.lt
            have hs3 : RdrAt (w3.setCell ⟨g, 2, none⟩ (.bool false)) g s b2 false := box_set hs2 2 _
            have K3 := Lib.hid (hC.set (g := g) (i := 2) (v := .bool false) (Nat.le_refl _) (by omega))
            go_wp2
            go_ret
            exact KPostG.no E.out (by omega) (by omega) (hs3.below (below_new _ _)) hb20 hb21 (K3.out.then_ (below_new _ _))
          | some r =>
            obtain ⟨n, d⟩ := r
            have hn := accM_nn HS.out hA
            have hn0 := hn.2
            have HF := Lib.hid hn.1
            have HA := Lib.hid hA
            clear hn hA
            simp only [fN, fD, fB]
            go_wp2_with fail
            have b4 := below_new w3 (.cells #[.int .i64 n, .int .i64 d] 28)
            replace x0 := box_below x0 b4
            replace hC := hC.then_ b4
            replace hs2 := hs2.below b4
            clear b4
            generalize w3.alloc (.cells #[.int .i64 n, .int .i64 d] 28) = w4 at *
            have l4 := lt_of_block x0
            refine (kexp_any _ _ _ _ _ _ hs2 hb20 hb21 HF.out hn0).mono ?_
            rintro e w5 ⟨hyes, hno, hc⟩
            replace x0 := box_chg x0 hc (.inr (by omega))
            replace hC := hC.trans hc
            clear hc hs2
            cases hE : expM s n d b2 with
            | none =>
              obtain ⟨z, rfl, b3, hs3, hb30, hb31⟩ := hno hE
              have E := Lib.hid (hx.out.trans (G3.out _ _ _ _ _ _ HM.out HA.out hE))
              clear hyes hno hE
              cases z
              · go_wp2
                go_roundw
                case rel => exact ⟨k + 1, b3, false, by omega, by go_num, Lib.hid ⟨fun h9 => (by cases h9), fun _ => E.out⟩, hs3, hb30, hb31, x0, hC⟩
                case measure => simp [intOf]; omega
              · go_wp2
                go_ret
                exact KPostG.no E.out hy0 hy1 hs3 hb30 hb31 hC
            | some r =>
              obtain ⟨u, b3⟩ := r
              obtain ⟨rfl, hs3⟩ := hyes u b3 hE
              have he := expM_bd hE hb20 hb21
              have he0 := he.1
              have he1 := he.2
              have HE := Lib.hid hE
              clear hyes hno hE he
              cases u
              · have E := Lib.hid (hx.out.trans (G5.out _ _ _ _ _ _ _ HM.out HA.out HE.out))
                go_wp2
                go_roundw
                case rel => exact ⟨k + 1, b3, true, by omega, by go_num, Lib.hid ⟨fun _ => by rw [show 200 - (k + 1) = 199 - k by omega]; exact E.out, fun h9 => (by cases h9)⟩, hs3, he0, he1, x0, hC⟩
                case measure => simp [intOf]; omega
              · have E := Lib.hid (hx.out.trans (G4.out _ _ _ _ _ _ _ HM.out HA.out HE.out))
                go_wp2
                go_ret
                exact KPostG.yes E.out hs3 hC
    · have E : Hid (R = none) := Lib.hid (by
        cases okj
        · exact hx.out.2 rfl
        · rw [hx.out.1 rfl, show 200 - k = 0 by omega]; exact HZ.out b)
      have k3 : RdrAt (wr.setCell ⟨g, 2, none⟩ (.bool false)) g s b false := box_set hs 2 _
      have K3 := Lib.hid (hC.set (g := g) (i := 2) (v := .bool false) (Nat.le_refl _) (by omega))
      go_wp2
      go_ret
      exact KPostG.no E.out (by omega) (by omega) k3 hb0 hb1 K3.out
end Go.Proofs.Ytfkdmddfadkjoaa
