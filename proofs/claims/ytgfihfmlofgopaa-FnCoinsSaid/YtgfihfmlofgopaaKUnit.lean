/- Unit coins: the reference's. -/
import Derived.Test.YtgfihfmlofgopaaUnit
import Derived.Test.YtgfihfmlofgopaaCut
import Derived.Deep.RegionHeld3
import Derived.Deep.DeepCutAuto
namespace Go.Proofs.Ytgfihfmlofgopaa
open Go.RowKit

/-- What a reading method of the reference leaves; an undescribed value behind a failure. -/
def KPostE {α : Type} (f : α → Value) (g : Nat) (s : Int) (r : Option (α × Int)) (w : World) (e : Ending) (w' : World) : Prop :=
  (∀ v a', r = some (v, a') → e = .returned (f v) ∧ RdrAt w' g s a' true) ∧ (r = none → ∃ z : α, e = .returned (f z) ∧ ∃ a', RdrAt w' g s a' false ∧ 0 ≤ a' ∧ a' ≤ 1000000) ∧ Chg g (g + 1) w w'
theorem KPostE.yes {α : Type} {f : α → Value} {g : Nat} {s : Int} {r : Option (α × Int)} {w w' : World} {v : α} {a' : Int} (h : r = some (v, a')) (hs : RdrAt w' g s a' true) (hc : Chg g (g + 1) w w') : KPostE f g s r w (.returned (f v)) w' :=
  ⟨fun v2 a2 h2 => (by rw [h] at h2; simp only [Option.some.injEq, Prod.mk.injEq] at h2; obtain ⟨rfl, rfl⟩ := h2; exact ⟨rfl, hs⟩), fun h2 => (by rw [h] at h2; cases h2), hc⟩
theorem KPostE.no {α : Type} {f : α → Value} {z : α} {g : Nat} {s : Int} {r : Option (α × Int)} {w w' : World} {a' : Int} (h : r = none) (hs : RdrAt w' g s a' false) (h0 : 0 ≤ a') (h1 : a' ≤ 1000000) (hc : Chg g (g + 1) w w') : KPostE f g s r w (.returned (f z)) w' :=
  ⟨fun v2 a2 h2 => (by rw [h] at h2; cases h2), fun _ => ⟨z, rfl, a', hs, h0, h1⟩, hc⟩
theorem KPost.weak {α : Type} {f : α → Value} {z : α} {g : Nat} {s : Int} {r : Option (α × Int)} {w w' : World} {e : Ending} (h : KPost f (f z) g s r w e w') : KPostE f g s r w e w' := ⟨h.1, fun h2 => ⟨z, h.2.1 h2⟩, h.2.2⟩
theorem divO_nat {n d : Int} {k : Nat} (hk : 1 ≤ k) : divO n d (k : Int) 1 = redO n (d * k) := by
  rw [divO_yes (by omega), Int.mul_one]

set_option maxRecDepth 100000 in
set_option maxHeartbeats 4000000 in
theorem kunit_any (g : Nat) (s a n d : Int) (w : World) (h : RdrAt w g s a true) (h0 : 0 ≤ a) (h1 : a ≤ 1000000) (hn : sm n) (hd : 1 ≤ d) (hd2 : d ≤ 1000000000) :
    Calls Try.prog 75 #[.pointer (some ⟨g, 0, none⟩), .agg #[.int .i64 n, .int .i64 d]] w (KPostE Value.bool g s (unitM s n d a) w) := by
  have hlt := h.lt
  have hds : sm d := sm_of (by omega) hd2
  have HR := Lib.hid (show unitM s n d a = unitT s n d 200 1 a from rfl)
  generalize unitM s n d a = R at *
  have x0 := box_new w #[.int .i64 n, .int .i64 d] 27
  have b0 := below_new w (.cells #[.int .i64 n, .int .i64 d] 27)
  have hC := (Chg.refl g (g + 1) w).alloc (.cells #[.int .i64 n, .int .i64 d] 27)
  replace h := h.below b0
  go_enter Try.func75, Try.ntmps75
  go_wp2_with fail
  generalize w.alloc (.cells #[.int .i64 n, .int .i64 d] 27) = w0 at *
  go_loopw [5] (fun i wr => ∃ (k : Nat) (b : Int), 1 ≤ k ∧ k ≤ 201 ∧ i = .int .i64 k ∧ Hid (R = unitT s n d (201 - k) k b) ∧ RdrAt wr g s b true ∧ 0 ≤ b ∧ b ≤ 1000000 ∧ wr.heap[w.heap.size]? = some (.cells #[.int .i64 n, .int .i64 d] 27 (0, 0)) ∧ Chg g (g + 1) w wr) (fun i _ => 201 - (intOf i).toNat)
  case atStart => exact ⟨1, a, by omega, by omega, rfl, HR, h, h0, h1, x0, hC⟩
  case round =>
    clear h x0 hC b0
    obtain ⟨k, b, hk1, hk, rfl, hx, hs, hb0, hb1, x0, hC⟩ := hrel
    have c0 := box_cell x0 0 _ rfl
    have c1 := box_cell x0 1 _ rfl
    have hwg := lt_of_block x0
    by_cases hlt2 : k ≤ 200
    · have hs200 : 201 - k = (200 - k) + 1 := by omega
      rw [hs200] at hx
      clear hs200
      have hks : sm (k : Int) := sm_of (by omega) (by omega)
      have hD := Lib.hid (divO_nat (n := n) (d := d) hk1)
      go_wp2_with fail
      go_cut [6, 7] (fun v6 v7 wx => ∃ gp, v6 = .pointer (some ⟨gp, 0, none⟩) ∧ v7 = .bool (fB (divO n d (k : Int) 1)) ∧ wx.heap[gp]? = some (.cells #[.int .i64 (fN (divO n d (k : Int) 1)), .int .i64 (fD (divO n d (k : Int) 1))] 27 (0, 0)) ∧ wr.heap.size ≤ gp ∧ Below wr.heap.size wr wx)
      case first =>
        have B90 := (Below.refl wr.heap.size wr).drew
        have x0k90 : wr.drew.heap[w.heap.size]? = _ := x0
        have ltx0 := lt_of_block x0
        go_region_held3 (fun w' => w'.cell? ⟨w.heap.size, 0, none⟩ = some (.int .i64 n) ∧ w'.cell? ⟨w.heap.size, 1, none⟩ = some (.int .i64 d)) (first | exact ⟨x0c092, x0c192⟩ | exact ⟨x0c091, x0c191⟩ | exact ⟨cell_two x0c092 (by omega), cell_two x0c192 (by omega)⟩ | exact ⟨cell_new x0c092, cell_new x0c192⟩ | go_keep) (first
              | (go_at_call 51; refine (fInt_any _ _).mono ?_; rintro e w91 ⟨rfl, b91⟩; (first | (have B91 := keepB B90 (Nat.le_refl _) b91; have x0k91 := box_below x0k90 b91; (first | (have G91 := box_below G90.1 b91; have G91 := And.intro G91 G90.2) | skip)) | (have b91 : Below (wr.drew.alloc (.cells #[.int .i64 0, .int .i64 0] 27)).heap.size (wr.drew.alloc (.cells #[.int .i64 0, .int .i64 0] 27)) w91 := b91; have B91 := keepBN B90 (Nat.le_refl _) b91; have x0k91 := keepN x0k90 b91; have G91 : w91.heap[wr.heap.size]? = _ ∧ wr.heap.size ≤ wr.heap.size := newAt (a := World.drew wr) B90 (Nat.le_refl _) b91)); have x0c091 := box_cell x0k91 0 _ rfl; have x0c191 := box_cell x0k91 1 _ rfl; (first | (have l91 := G91.2; have d0 := box_cell G91.1 0 _ rfl; have d1 := box_cell G91.1 1 _ rfl; have f0 := box_free G91.1 0; have f1 := box_free G91.1 1) | skip))
              | (go_at_call 57; refine (fDiv_any _ _ _ _ _ hn hds hks sm_one).mono ?_; rintro e w92 ⟨rfl, b92⟩; (first | (have B92 := keepB B91 (Nat.le_refl _) b92; have x0k92 := box_below x0k91 b92; (first | (have G92 := box_below G91.1 b92; have G92 := And.intro G92 G91.2) | skip)) | (have B92 := keepBN B91 (Nat.le_refl _) b92; have x0k92 := keepN x0k91 b92; have G92 := newAt B91 (Nat.le_refl _) b92)); have x0c092 := box_cell x0k92 0 _ rfl; have x0c192 := box_cell x0k92 1 _ rfl; (first | (have l92 := G92.2; have d0 := box_cell G92.1 0 _ rfl; have d1 := box_cell G92.1 1 _ rfl; have f0 := box_free G92.1 0; have f1 := box_free G92.1 1) | skip)))
        all_goals (go_wp2_with fail; go_meet; first | exact ⟨_, rfl, rfl, store_two G92.1 _ _, G92.2, below_two B92 G92.2⟩ | exact ⟨_, rfl, rfl, box_new _ _ _, B92.size, keepB B92 (Nat.le_refl _) (below_new _ _)⟩)
      case rest =>
        obtain ⟨gp, rfl, rfl, xp, hgp, hb⟩ := hcut
        rw [hD.out] at xp
        rw [hD.out]
        replace hs := hs.below hb
        replace x0 := box_below x0 hb
        replace hC := hC.then_ hb
        have hgg : g + 1 ≤ gp := by omega
        clear hb c0 c1 hD hgp
        generalize wc = w1 at *
        cases hr : redO n (d * k) with
        | none =>
          have E := Lib.hid (hx.out.trans (unitT_no hr))
          clear hr
          simp only [fB]
          have f2 := box_free hs 2
          have k3 : RdrAt (w1.setCell ⟨g, 2, none⟩ (.bool false)) g s b false := box_set hs 2 _
          have K3 := Lib.hid (hC.set (g := g) (i := 2) (v := .bool false) (Nat.le_refl _) (by omega))
          have c2 := box_cell hs 2 _ rfl
          go_wp2
          go_ret
          exact KPostE.no E.out k3 hb0 hb1 K3.out
        | some r =>
          obtain ⟨p, q⟩ := r
          have hf := fracB_of (redO_frac hr)
          have hq0 := hf.1
          have hq1 := hf.2.1
          have Hr := Lib.hid hr
          rw [hr] at xp
          clear hr hf
          simp only [fN, fD, fB] at xp ⊢
          have p0 := box_cell xp 0 _ rfl
          have p1 := box_cell xp 1 _ rfl
          go_wp2_with fail
          refine (kcoin_any _ _ _ _ _ true _ hs hb0 hb1 hq0 hq1).mono ?_
          rintro e w4 ⟨hyes, hno, hc⟩
          rw [if_pos rfl] at hyes hno
          replace x0 := box_chg x0 hc (.inr (by omega))
          replace hC := hC.trans hc
          clear hc hs xp p0 p1
          cases hM : coinM s p q b with
          | none =>
            obtain ⟨rfl, b2, hs2, hb20, hb21⟩ := hno hM
            have E := Lib.hid (hx.out.trans (unitT_fail Hr.out hM))
            clear hyes hno hM
            go_wp2
            go_ret
            exact KPostE.no E.out hs2 hb20 hb21 hC
          | some r =>
            obtain ⟨u, b2⟩ := r
            obtain ⟨rfl, hs2⟩ := hyes u b2 hM
            have hb := coinM_bd hM hb0 hb1
            have hb20 := hb.1
            have hb21 := hb.2
            have HM := Lib.hid hM
            clear hyes hno hM hb
            cases u
            · have E := Lib.hid (hx.out.trans (unitT_down Hr.out HM.out))
              go_wp2
              go_ret
              exact KPostE.yes E.out hs2 hC
            · have E := Lib.hid (hx.out.trans (unitT_up Hr.out HM.out))
              have E2 : Hid (R = unitT s n d (201 - (k + 1)) (k + 1) b2) := by rw [show 201 - (k + 1) = 200 - k by omega]; exact E
              go_wp2
              go_roundw
              case rel => exact ⟨k + 1, b2, by omega, by omega, by go_num, E2, hs2, hb20, hb21, x0, hC⟩
              case measure => simp [intOf]; omega
    · have E : Hid (R = none) := Lib.hid (by rw [hx.out, show 201 - k = 0 by omega]; rfl)
      have f2 := box_free hs 2
      have c2 := box_cell hs 2 _ rfl
      have k3 : RdrAt (wr.setCell ⟨g, 2, none⟩ (.bool false)) g s b false := box_set hs 2 _
      have K3 := Lib.hid (hC.set (g := g) (i := 2) (v := .bool false) (Nat.le_refl _) (by omega))
      go_wp2
      go_ret
      exact KPostE.no E.out k3 hb0 hb1 K3.out
end Go.Proofs.Ytgfihfmlofgopaa
