/- Several small texts in one: MyG, MyH. -/
import Derived.Test.YtcjmapdeopffcaaHd
namespace Go.Proofs.Ytcjmapdeopffcaa

section
open Go.RowKit Flo
set_option linter.unusedVariables false

theorem NetB.bound {t : Net} (h : NetB t) {i j : Nat} {a b : Int} (h1 : 0 ≤ a) (h2 : a ≤ b) (h3 : b ≤ 100000) : NetB (t.bound i j a b) := by
  refine ⟨h.n1, h.n8, h.m1, h.m8, h.r, h.c, fun p q hp hq => ?_⟩
  show 0 ≤ (if p = i ∧ q = j then a else t.lo p q) ∧ (if p = i ∧ q = j then a else t.lo p q) ≤ (if p = i ∧ q = j then b else t.hi p q) ∧ (if p = i ∧ q = j then b else t.hi p q) ≤ 100000
  by_cases e : p = i ∧ q = j
  · simp only [if_pos e]; exact ⟨h1, h2, h3⟩
  · simp only [if_neg e]; exact h.b p q hp hq
/-- A step of the search for the least value. -/
structure LowI (t : Net) (i j : Nat) (lo hi : Int) : Prop where
  lo_ : t.lo i j ≤ lo
  le : lo ≤ hi
  hi_ : hi ≤ t.hi i j
  ex : t.Feas → ∃ x, t.Flow x ∧ x i j ≤ hi
  all : ∀ x, t.Flow x → lo ≤ x i j
structure HighI (t : Net) (i j : Nat) (lo hi : Int) : Prop where
  lo_ : t.lo i j ≤ lo
  le : lo ≤ hi
  hi_ : hi ≤ t.hi i j
  ex : t.Feas → ∃ x, t.Flow x ∧ lo ≤ x i j
  all : ∀ x, t.Flow x → x i j ≤ hi
section
variable {t : Net} {i j : Nat} {lo hi mid : Int}
theorem LowI.start (h : NetB t) (hi' : i < t.n) (hj : j < t.m) : LowI t i j (t.lo i j) (t.hi i j) := ⟨Int.le_refl _, (h.b i j hi' hj).2.1, Int.le_refl _, fun ⟨x, hx⟩ => ⟨x, hx, hx.le i j hi' hj⟩, fun x hx => hx.ge i j hi' hj⟩
theorem HighI.start (h : NetB t) (hi' : i < t.n) (hj : j < t.m) : HighI t i j (t.lo i j) (t.hi i j) := ⟨Int.le_refl _, (h.b i j hi' hj).2.1, Int.le_refl _, fun ⟨x, hx⟩ => ⟨x, hx, hx.ge i j hi' hj⟩, fun x hx => hx.le i j hi' hj⟩
theorem LowI.yes (h : LowI t i j lo hi) (hi' : i < t.n) (hj : j < t.m) (h1 : lo ≤ mid) (h2 : mid < hi) (hf : (t.bound i j (t.lo i j) mid).Feas) : LowI t i j lo mid := by
  obtain ⟨x, hx⟩ := hf
  exact ⟨h.lo_, h1, by have := h.hi_; omega, fun _ => ⟨x, hx.unbound (Int.le_refl _) (by have := h.hi_; omega), (hx.at_bound hi' hj).2⟩, h.all⟩
theorem LowI.no (h : LowI t i j lo hi) (hi' : i < t.n) (hj : j < t.m) (h1 : lo ≤ mid) (h2 : mid < hi) (hf : ¬ (t.bound i j (t.lo i j) mid).Feas) : LowI t i j (mid + 1) hi :=
  ⟨by have := h.lo_; omega, by omega, h.hi_, h.ex, fun x hx => by
    apply Int.not_lt.1
    intro h3
    exact hf ⟨x, hx.bound (hx.ge i j hi' hj) (by omega)⟩⟩
theorem HighI.yes (h : HighI t i j lo hi) (hi' : i < t.n) (hj : j < t.m) (h1 : lo < mid) (h2 : mid ≤ hi) (hf : (t.bound i j mid (t.hi i j)).Feas) : HighI t i j mid hi := by
  obtain ⟨x, hx⟩ := hf
  exact ⟨by have := h.lo_; omega, h2, h.hi_, fun _ => ⟨x, hx.unbound (by have := h.lo_; omega) (Int.le_refl _), (hx.at_bound hi' hj).1⟩, h.all⟩
theorem HighI.no (h : HighI t i j lo hi) (hi' : i < t.n) (hj : j < t.m) (h1 : lo < mid) (h2 : mid ≤ hi) (hf : ¬ (t.bound i j mid (t.hi i j)).Feas) : HighI t i j lo (mid - 1) :=
  ⟨h.lo_, by omega, by have := h.hi_; omega, h.ex, fun x hx => by
    apply Int.not_lt.1
    intro h3
    exact hf ⟨x, hx.bound (by omega) (hx.le i j hi' hj)⟩⟩
theorem LowI.fin (h : LowI t i j lo hi) (e : ¬ lo < hi) : t.Feas → t.IsMin i j lo := fun hf => by
  obtain ⟨x, hx, h1⟩ := h.ex hf
  exact ⟨⟨x, hx, by have := h.all x hx; have := h.le; omega⟩, h.all⟩
theorem HighI.fin (h : HighI t i j lo hi) (e : ¬ lo < hi) : t.Feas → t.IsMax i j lo := fun hf => by
  obtain ⟨x, hx, h1⟩ := h.ex hf
  exact ⟨⟨x, hx, by have := h.all x hx; have := h.le; omega⟩, fun y hy => by have := h.all y hy; have := h.le; omega⟩
end


set_option maxRecDepth 100000 in
set_option maxHeartbeats 4000000 in
theorem tLow_any (n m i j : Nat) (R C L H : Option Addr) (rc cc lc hc : Nat) (t : Net) (w : World) (en : t.n = n) (em : t.m = m) (hN : NetR w R C L H t) (ht : NetB t) (hi : i < n) (hj : j < m) :
    Calls Try.prog 29 #[.agg #[.slice R n rc, .slice C m cc, .slice L n lc, .slice H n hc], .int .i64 i, .int .i64 j] w fun e w' => ∃ v, e = .returned (.int .i64 v) ∧ t.lo i j ≤ v ∧ v ≤ t.hi i j ∧ (t.Feas → t.IsMin i j v) ∧ Below w.heap.size w w' := by
  have h8 := ht.n8
  have h8' := ht.m8
  have h1m := ht.m1
  rw [en] at h8
  rw [em] at h8' h1m
  have hbd := ht.b i j (by rw [en]; exact hi) (by rw [em]; exact hj)
  have HT := Lib.hid ht
  have EN := Lib.hid en
  have EM := Lib.hid em
  have B0 := Lib.hid (below_new w (.cells #[.slice R n rc, .slice C m cc, .slice L n lc, .slice H n hc] 54))
  have X0 := Lib.hid (box_new w #[.slice R n rc, .slice C m cc, .slice L n lc, .slice H n hc] 54)
  have HN := Lib.hid (hN.below B0.out)
  have hL0 := HN.out.lo
  have hH0 := HN.out.hi
  rw [en, em] at hL0 hH0
  obtain ⟨al, vl, cl, rfl, c4, c5⟩ := matR_cell hL0 hi hj
  obtain ⟨ah, vh, ch, rfl, c6, c7⟩ := matR_cell hH0 hi hj
  have c0 := box_cell X0.out 0 (.slice R n rc) rfl
  have c1 := box_cell X0.out 1 (.slice C m cc) rfl
  have c2 := box_cell X0.out 2 (.slice (some al) n lc) rfl
  have c3 := box_cell X0.out 3 (.slice (some ah) n hc) rfl
  have HI := Lib.hid (LowI.start ht (show i < t.n by rw [en]; exact hi) (show j < t.m by rw [em]; exact hj))
  have HY := Lib.hid (fun (lo hi' mid : Int) (h : LowI t i j lo hi') (h1 : lo ≤ mid) (h2 : mid < hi') => And.intro (fun hf => h.yes (show i < t.n by rw [en]; exact hi) (show j < t.m by rw [em]; exact hj) h1 h2 hf) (fun hf => h.no (show i < t.n by rw [en]; exact hi) (show j < t.m by rw [em]; exact hj) h1 h2 hf))
  have HBB := Lib.hid (fun (mid : Int) (h1 : t.lo i j ≤ mid) (h2 : mid ≤ t.hi i j) => ht.bound (i := i) (j := j) hbd.1 h1 (by omega))
  clear hN ht en em hL0 hH0
  go_enter Try.func29, Try.ntmps29
  go_wp2
  generalize w.alloc (.cells #[.slice R n rc, .slice C m cc, .slice (some al) n lc, .slice (some ah) n hc] 54) = w1 at *
  have KW := Lib.hid (fun (W : World) (mid : Int) (hb : Below w1.heap.size w1 W) => tWith_any n m i j (t.lo i j) mid R C (some al) (some ah) rc cc lc hc t W EN.out EM.out (HN.out.below hb) h1m h8 h8' hi hj)
  have KF := Lib.hid (fun (W : World) (L' H' : Option Addr) (lc' hc' : Nat) (mid : Int) (hb : NetR W R C L' H' (t.bound i j (t.lo i j) mid)) (h1 : t.lo i j ≤ mid) (h2 : mid ≤ t.hi i j) => tFeasible_any n m R C L' H' rc cc lc' hc' (t.bound i j (t.lo i j) mid) W EN.out EM.out hb (HBB.out mid h1 h2))
  have HB1 : Hid (Below w1.heap.size w1 w1) := Lib.hid (Below.refl _ _)
  generalize ha0 : t.lo i j = a0 at *
  generalize hb0 : t.hi i j = b0 at *
  obtain ⟨hbd0, hbd1, hbd2⟩ := hbd
  have HA0 := Lib.hid ha0
  have HB00 := Lib.hid hb0
  clear ha0 hb0
  go_quiet (fail)
  go_wp2_with fail
  go_loopw [7, 8] (fun lv hv wr => ∃ lo hi' : Int, lv = .int .i64 lo ∧ hv = .int .i64 hi' ∧ a0 ≤ lo ∧ lo ≤ hi' ∧ hi' ≤ b0 ∧ Hid (LowI t i j lo hi') ∧ Hid (Below w1.heap.size w1 wr)) (fun lv hv _ => (intOf hv - intOf lv).toNat)
  case atStart => exact ⟨a0, b0, rfl, rfl, Int.le_refl _, hbd1, Int.le_refl _, HI, Lib.hid (below_drewN (Below.refl _ _) _)⟩
  case round =>
    clear HI
    obtain ⟨lo, hi', rfl, rfl, hl1, hl2, hl3, HI, HB⟩ := hrel
    by_cases hlt : lo < hi'
    case neg =>
      have HF := Lib.hid (HI.out.fin hlt)
      have HBB' := Lib.hid (B0.out.trans (HB.out.mono B0.out.size))
      go_wp2
      go_ret
      exact ⟨lo, rfl, by rw [HA0.out]; exact hl1, by rw [HB00.out]; omega, HF.out, HBB'.out⟩
    case pos =>
      obtain ⟨mid, hmid⟩ : ∃ mid, (lo + hi').tdiv 2 = mid := ⟨_, rfl⟩
      have hdv : (lo + hi').tdiv 2 = (lo + hi') / 2 := Int.tdiv_eq_ediv_of_nonneg (by omega)
      have hm1 : lo ≤ mid := by omega
      have hm2 : mid < hi' := by omega
      have W1 : IntKind.i64.wrap mid = mid := IntWalk.i64_in _ ⟨by omega, by omega⟩
      clear hdv
      have d0 : (World.drew wr).cell? ⟨w.heap.size, 0, none⟩ = some (.slice R n rc) := (HB.out.cell (block_lt_of_cell c0)).trans c0
      have d1 : (World.drew wr).cell? ⟨w.heap.size, 1, none⟩ = some (.slice C m cc) := (HB.out.cell (block_lt_of_cell c1)).trans c1
      have d2 : (World.drew wr).cell? ⟨w.heap.size, 2, none⟩ = some (.slice (some al) n lc) := (HB.out.cell (block_lt_of_cell c2)).trans c2
      have d3 : (World.drew wr).cell? ⟨w.heap.size, 3, none⟩ = some (.slice (some ah) n hc) := (HB.out.cell (block_lt_of_cell c3)).trans c3
      have d4 : (World.drew wr).cell? (al.add i) = _ := (HB.out.cell (block_lt_of_cell c4)).trans c4
      have d5 : (World.drew wr).cell? (vl.add j) = _ := (HB.out.cell (block_lt_of_cell c5)).trans c5
      have hbd' : Below w1.heap.size w1 (World.drew wr) := HB.out.drew
      have HBD := Lib.hid hbd'
      clear c0 c1 c2 c3 c4 c5 c6 c7 hbd'
      go_upto_region 4 with (fail)
      go_cut [11] (fun v11 wx => ∃ r : Bool, v11 = .bool r ∧ (r = true ↔ (t.bound i j a0 mid).Feas) ∧ Below w1.heap.size w1 wx)
      case first =>
        go_region_held3 (fun w' => w'.cell? ⟨w.heap.size, 0, none⟩ = some (.slice R n rc) ∧ w'.cell? ⟨w.heap.size, 1, none⟩ = some (.slice C m cc) ∧ w'.cell? ⟨w.heap.size, 2, none⟩ = some (.slice (some al) n lc) ∧ w'.cell? ⟨w.heap.size, 3, none⟩ = some (.slice (some ah) n hc) ∧ w'.cell? (al.add i) = some (.slice (some vl) m cl) ∧ w'.cell? (vl.add j) = some (.int .i64 a0)) (first | with_reducible exact ⟨p0, p1, p2, p3, p4, p5⟩ | with_reducible exact ⟨q0, q1, q2, q3, q4, q5⟩ | with_reducible exact ⟨d0, d1, d2, d3, d4, d5⟩ | go_keep) (first
          | (go_simp; go_at_call 32; (with_reducible refine (KW.out _ mid ?_).mono ?_); (exact HBD.out); rintro e w5 ⟨L', H', lc', hc', rfl, n5, b5, _⟩; have B5 := Lib.hid (HBD.out.trans (b5.mono HBD.out.size)); have q0 := cellLater d0 b5; have q1 := cellLater d1 b5; have q2 := cellLater d2 b5; have q3 := cellLater d3 b5; have q4 := cellLater d4 b5; have q5 := cellLater d5 b5; dsimp only)
          | (go_simp; go_at_call 66; (with_reducible refine (KF.out _ L' H' lc' hc' mid n5 (by omega) (by omega)).mono ?_); rintro e w6 ⟨X, xn, xc, r, rfl, hr, b6⟩; have B6 := Lib.hid (B5.out.trans (b6.mono B5.out.size)); have p0 := cellLater q0 b6; have p1 := cellLater q1 b6; have p2 := cellLater q2 b6; have p3 := cellLater q3 b6; have p4 := cellLater q4 b6; have p5 := cellLater q5 b6; dsimp only)
          | fail)
        all_goals (go_wp2_with fail; go_meet)
        all_goals exact ⟨r, rfl, hr, B6.out⟩
      case rest =>
        obtain ⟨r, rfl, hr, hbc⟩ := hcut
        obtain ⟨hy, hn⟩ := HY.out lo hi' mid HI.out hm1 hm2
        have HC := Lib.hid hbc
        clear d0 d1 d2 d3 d4 d5 HBD W1 KW KF hbc
        cases r
        case false =>
          have HI2 := Lib.hid (hn (fun hf => by have := hr.2 hf; cases this))
          clear hy hn hr HI hmid
          go_wp2
          go_roundw
          case rel => exact ⟨mid + 1, hi', rfl, rfl, by omega, by omega, hl3, HI2, HC⟩
          case measure => simp [intOf]; omega
        case true =>
          have HI2 := Lib.hid (hy (hr.1 rfl))
          clear hy hn hr HI hmid
          go_wp2
          go_roundw
          case rel => exact ⟨lo, mid, rfl, rfl, hl1, hm1, by omega, HI2, HC⟩
          case measure => simp [intOf]; omega

set_option maxRecDepth 100000 in
set_option maxHeartbeats 4000000 in
theorem tHigh_any (n m i j : Nat) (R C L H : Option Addr) (rc cc lc hc : Nat) (t : Net) (w : World) (en : t.n = n) (em : t.m = m) (hN : NetR w R C L H t) (ht : NetB t) (hi : i < n) (hj : j < m) :
    Calls Try.prog 30 #[.agg #[.slice R n rc, .slice C m cc, .slice L n lc, .slice H n hc], .int .i64 i, .int .i64 j] w fun e w' => ∃ v, e = .returned (.int .i64 v) ∧ t.lo i j ≤ v ∧ v ≤ t.hi i j ∧ (t.Feas → t.IsMax i j v) ∧ Below w.heap.size w w' := by
  have h8 := ht.n8
  have h8' := ht.m8
  have h1m := ht.m1
  rw [en] at h8
  rw [em] at h8' h1m
  have hbd := ht.b i j (by rw [en]; exact hi) (by rw [em]; exact hj)
  have HT := Lib.hid ht
  have EN := Lib.hid en
  have EM := Lib.hid em
  have B0 := Lib.hid (below_new w (.cells #[.slice R n rc, .slice C m cc, .slice L n lc, .slice H n hc] 54))
  have X0 := Lib.hid (box_new w #[.slice R n rc, .slice C m cc, .slice L n lc, .slice H n hc] 54)
  have HN := Lib.hid (hN.below B0.out)
  have hL0 := HN.out.lo
  have hH0 := HN.out.hi
  rw [en, em] at hL0 hH0
  obtain ⟨al, vl, cl, rfl, c4, c5⟩ := matR_cell hL0 hi hj
  obtain ⟨ah, vh, ch, rfl, c6, c7⟩ := matR_cell hH0 hi hj
  have c0 := box_cell X0.out 0 (.slice R n rc) rfl
  have c1 := box_cell X0.out 1 (.slice C m cc) rfl
  have c2 := box_cell X0.out 2 (.slice (some al) n lc) rfl
  have c3 := box_cell X0.out 3 (.slice (some ah) n hc) rfl
  have HI := Lib.hid (HighI.start ht (show i < t.n by rw [en]; exact hi) (show j < t.m by rw [em]; exact hj))
  have HY := Lib.hid (fun (lo hi' mid : Int) (h : HighI t i j lo hi') (h1 : lo < mid) (h2 : mid ≤ hi') => And.intro (fun hf => h.yes (show i < t.n by rw [en]; exact hi) (show j < t.m by rw [em]; exact hj) h1 h2 hf) (fun hf => h.no (show i < t.n by rw [en]; exact hi) (show j < t.m by rw [em]; exact hj) h1 h2 hf))
  have HBB := Lib.hid (fun (mid : Int) (h1 : t.lo i j ≤ mid) (h2 : mid ≤ t.hi i j) => ht.bound (i := i) (j := j) (a := mid) (b := t.hi i j) (by omega) h2 hbd.2.2)
  clear hN ht en em hL0 hH0
  go_enter Try.func30, Try.ntmps30
  go_wp2
  generalize w.alloc (.cells #[.slice R n rc, .slice C m cc, .slice (some al) n lc, .slice (some ah) n hc] 54) = w1 at *
  have KW := Lib.hid (fun (W : World) (mid : Int) (hb : Below w1.heap.size w1 W) => tWith_any n m i j mid (t.hi i j) R C (some al) (some ah) rc cc lc hc t W EN.out EM.out (HN.out.below hb) h1m h8 h8' hi hj)
  have KF := Lib.hid (fun (W : World) (L' H' : Option Addr) (lc' hc' : Nat) (mid : Int) (hb : NetR W R C L' H' (t.bound i j mid (t.hi i j))) (h1 : t.lo i j ≤ mid) (h2 : mid ≤ t.hi i j) => tFeasible_any n m R C L' H' rc cc lc' hc' (t.bound i j mid (t.hi i j)) W EN.out EM.out hb (HBB.out mid h1 h2))
  have HB1 : Hid (Below w1.heap.size w1 w1) := Lib.hid (Below.refl _ _)
  generalize ha0 : t.lo i j = a0 at *
  generalize hb0 : t.hi i j = b0 at *
  obtain ⟨hbd0, hbd1, hbd2⟩ := hbd
  have HA0 := Lib.hid ha0
  have HB00 := Lib.hid hb0
  clear ha0 hb0
  go_quiet (fail)
  go_wp2_with fail
  go_loopw [7, 8] (fun lv hv wr => ∃ lo hi' : Int, lv = .int .i64 lo ∧ hv = .int .i64 hi' ∧ a0 ≤ lo ∧ lo ≤ hi' ∧ hi' ≤ b0 ∧ Hid (HighI t i j lo hi') ∧ Hid (Below w1.heap.size w1 wr)) (fun lv hv _ => (intOf hv - intOf lv).toNat)
  case atStart => exact ⟨a0, b0, rfl, rfl, Int.le_refl _, hbd1, Int.le_refl _, HI, Lib.hid (below_drewN (Below.refl _ _) _)⟩
  case round =>
    clear HI
    obtain ⟨lo, hi', rfl, rfl, hl1, hl2, hl3, HI, HB⟩ := hrel
    by_cases hlt : lo < hi'
    case neg =>
      have HF := Lib.hid (HI.out.fin hlt)
      have HBB' := Lib.hid (B0.out.trans (HB.out.mono B0.out.size))
      go_wp2
      go_ret
      exact ⟨lo, rfl, by rw [HA0.out]; exact hl1, by rw [HB00.out]; omega, HF.out, HBB'.out⟩
    case pos =>
      obtain ⟨mid, hmid⟩ : ∃ mid, (lo + hi' + 1).tdiv 2 = mid := ⟨_, rfl⟩
      have hdv : (lo + hi' + 1).tdiv 2 = (lo + hi' + 1) / 2 := Int.tdiv_eq_ediv_of_nonneg (by omega)
      have hm1 : lo < mid := by omega
      have hm2 : mid ≤ hi' := by omega
      have W1 : IntKind.i64.wrap mid = mid := IntWalk.i64_in _ ⟨by omega, by omega⟩
      clear hdv
      have d0 : (World.drew wr).cell? ⟨w.heap.size, 0, none⟩ = some (.slice R n rc) := (HB.out.cell (block_lt_of_cell c0)).trans c0
      have d1 : (World.drew wr).cell? ⟨w.heap.size, 1, none⟩ = some (.slice C m cc) := (HB.out.cell (block_lt_of_cell c1)).trans c1
      have d2 : (World.drew wr).cell? ⟨w.heap.size, 2, none⟩ = some (.slice (some al) n lc) := (HB.out.cell (block_lt_of_cell c2)).trans c2
      have d3 : (World.drew wr).cell? ⟨w.heap.size, 3, none⟩ = some (.slice (some ah) n hc) := (HB.out.cell (block_lt_of_cell c3)).trans c3
      have d4 : (World.drew wr).cell? (ah.add i) = _ := (HB.out.cell (block_lt_of_cell c6)).trans c6
      have d5 : (World.drew wr).cell? (vh.add j) = _ := (HB.out.cell (block_lt_of_cell c7)).trans c7
      have hbd' : Below w1.heap.size w1 (World.drew wr) := HB.out.drew
      have HBD := Lib.hid hbd'
      clear c0 c1 c2 c3 c4 c5 c6 c7 hbd'
      go_upto_region 4 with (fail)
      go_cut [11] (fun v11 wx => ∃ r : Bool, v11 = .bool r ∧ (r = true ↔ (t.bound i j mid b0).Feas) ∧ Below w1.heap.size w1 wx)
      case first =>
        go_region_held3 (fun w' => w'.cell? ⟨w.heap.size, 0, none⟩ = some (.slice R n rc) ∧ w'.cell? ⟨w.heap.size, 1, none⟩ = some (.slice C m cc) ∧ w'.cell? ⟨w.heap.size, 2, none⟩ = some (.slice (some al) n lc) ∧ w'.cell? ⟨w.heap.size, 3, none⟩ = some (.slice (some ah) n hc) ∧ w'.cell? (ah.add i) = some (.slice (some vh) m ch) ∧ w'.cell? (vh.add j) = some (.int .i64 b0)) (first | with_reducible exact ⟨p0, p1, p2, p3, p4, p5⟩ | with_reducible exact ⟨q0, q1, q2, q3, q4, q5⟩ | with_reducible exact ⟨d0, d1, d2, d3, d4, d5⟩ | go_keep) (first
          | (go_simp; go_at_call 32; (with_reducible refine (KW.out _ mid ?_).mono ?_); (exact HBD.out); rintro e w5 ⟨L', H', lc', hc', rfl, n5, b5, _⟩; have B5 := Lib.hid (HBD.out.trans (b5.mono HBD.out.size)); have q0 := cellLater d0 b5; have q1 := cellLater d1 b5; have q2 := cellLater d2 b5; have q3 := cellLater d3 b5; have q4 := cellLater d4 b5; have q5 := cellLater d5 b5; dsimp only)
          | (go_simp; go_at_call 66; (with_reducible refine (KF.out _ L' H' lc' hc' mid n5 (by omega) (by omega)).mono ?_); rintro e w6 ⟨X, xn, xc, r, rfl, hr, b6⟩; have B6 := Lib.hid (B5.out.trans (b6.mono B5.out.size)); have p0 := cellLater q0 b6; have p1 := cellLater q1 b6; have p2 := cellLater q2 b6; have p3 := cellLater q3 b6; have p4 := cellLater q4 b6; have p5 := cellLater q5 b6; dsimp only)
          | fail)
        all_goals (go_wp2_with fail; go_meet)
        all_goals exact ⟨r, rfl, hr, B6.out⟩
      case rest =>
        obtain ⟨r, rfl, hr, hbc⟩ := hcut
        obtain ⟨hy, hn⟩ := HY.out lo hi' mid HI.out hm1 hm2
        have HC := Lib.hid hbc
        clear d0 d1 d2 d3 d4 d5 HBD W1 KW KF hbc
        cases r
        case false =>
          have HI2 := Lib.hid (hn (fun hf => by have := hr.2 hf; cases this))
          clear hy hn hr HI hmid
          go_wp2
          go_roundw
          case rel => exact ⟨lo, mid - 1, rfl, rfl, hl1, by omega, by omega, HI2, HC⟩
          case measure => simp [intOf]; omega
        case true =>
          have HI2 := Lib.hid (hy (hr.1 rfl))
          clear hy hn hr HI hmid
          go_wp2
          go_roundw
          case rel => exact ⟨mid, hi', rfl, rfl, by omega, hm2, hl3, HI2, HC⟩
          case measure => simp [intOf]; omega
end

section
open Go.RowKit Flo
set_option linter.unusedVariables false

/-- A network with tighter bounds. -/
structure SubN (s t : Net) : Prop where
  b : NetB s
  n : s.n = t.n
  m : s.m = t.m
  r : s.R = t.R
  c : s.C = t.C
  lo : ∀ i j, i < t.n → j < t.m → t.lo i j ≤ s.lo i j
  hi : ∀ i j, i < t.n → j < t.m → s.hi i j ≤ t.hi i j
theorem SubN.refl {t : Net} (h : NetB t) : SubN t t := ⟨h, rfl, rfl, rfl, rfl, fun _ _ _ _ => Int.le_refl _, fun _ _ _ _ => Int.le_refl _⟩
theorem SubN.set {s t : Net} (h : SubN s t) {i j : Nat} {v : Int} (hi : i < t.n) (hj : j < t.m) (h1 : s.lo i j ≤ v) (h2 : v ≤ s.hi i j) : SubN (s.bound i j v v) t := by
  have hb := h.b.b i j (by rw [h.n]; exact hi) (by rw [h.m]; exact hj)
  refine ⟨h.b.bound (by omega) (Int.le_refl _) (by omega), h.n, h.m, h.r, h.c, fun p q hp hq => ?_, fun p q hp hq => ?_⟩
  · show t.lo p q ≤ (if p = i ∧ q = j then v else s.lo p q)
    have := h.lo p q hp hq
    by_cases e : p = i ∧ q = j
    · rw [if_pos e]; rw [e.1, e.2] at this ⊢; omega
    · rw [if_neg e]; exact this
  · show (if p = i ∧ q = j then v else s.hi p q) ≤ t.hi p q
    have := h.hi p q hp hq
    by_cases e : p = i ∧ q = j
    · rw [if_pos e]; rw [e.1, e.2] at this ⊢; omega
    · rw [if_neg e]; exact this
theorem SubN.flow {s t : Net} (h : SubN s t) {x : Nat → Nat → Int} (hx : s.Flow x) : t.Flow x :=
  ⟨fun i j hi hj => Int.le_trans (h.lo i j hi hj) (hx.ge i j (by rw [h.n]; exact hi) (by rw [h.m]; exact hj)), fun i j hi hj => Int.le_trans (hx.le i j (by rw [h.n]; exact hi) (by rw [h.m]; exact hj)) (h.hi i j hi hj),
   fun i hi => by have := hx.row i (by rw [h.n]; exact hi); rw [h.m, h.r] at this; exact this, fun j hj => by have := hx.col j (by rw [h.m]; exact hj); rw [h.n, h.c] at this; exact this⟩
/-- A network that is read, however the block g turns. -/
def NetK (w : World) (g : Nat) (R C L H : Option Addr) (t : Net) : Prop := ∀ w', Chg g (g + 1) w w' → NetR w' R C L H t
theorem NetK.now {w : World} {g : Nat} {R C L H : Option Addr} {t : Net} (h : NetK w g R C L H t) : NetR w R C L H t := h w (Chg.refl _ _ _)
theorem NetK.chg {w w' : World} {g : Nat} {R C L H : Option Addr} {t : Net} (h : NetK w g R C L H t) (hc : Chg g (g + 1) w w') : NetK w' g R C L H t := fun w2 h2 => h w2 (hc.trans h2)
theorem NetK.below {w w' : World} {g : Nat} {R C L H : Option Addr} {t : Net} (h : NetK w g R C L H t) (hc : Below w.heap.size w w') : NetK w' g R C L H t := h.chg (Chg.of_below hc)
theorem NetK.old {w w1 : World} {R C L H : Option Addr} {t : Net} (h : NetR w R C L H t) (hb : Below w.heap.size w w1) : NetK w1 w.heap.size R C L H t := fun _ h2 => h.below (h2.below hb (Nat.le_refl _) hb.size)
theorem NetK.with_ {w w5 : World} {g i j p q p2 q2 lc' hc' : Nat} {a b : Int} {R C L H L' H' : Option Addr} {t : Net} (h : NetK w g R C L H t) (hg : g < w.heap.size) (hb : Below w.heap.size w w5) (hp : w.heap.size ≤ p) (hp2 : w.heap.size ≤ p2)
    (h1 : Mat w5 p q L' t.n lc' t.m (t.bound i j a b).lo) (h2 : Mat w5 p2 q2 H' t.n hc' t.m (t.bound i j a b).hi) : NetK w5 g R C L' H' (t.bound i j a b) := fun w' hc => by
  have h3 := h w' ((Chg.of_below hb).trans hc)
  exact ⟨h3.r, h3.c, (h1.chg hc (.inr (by omega))).read, (h2.chg hc (.inr (by omega))).read⟩

set_option maxRecDepth 100000 in
set_option maxHeartbeats 4000000 in
theorem tFirst_any (n m : Nat) (R C L H : Option Addr) (rc cc lc hc : Nat) (t : Net) (w : World) (en : t.n = n) (em : t.m = m) (hN : NetR w R C L H t) (ht : NetB t) :
    Calls Try.prog 33 #[.agg #[.slice R n rc, .slice C m cc, .slice L n lc, .slice H n hc]] w fun e w' => ∃ (X : Option Addr) (xn xc : Nat) (r : Bool), e = .returned (.tuple #[.slice X xn xc, .bool r]) ∧ (r = true ↔ t.Feas) ∧ (r = true → xn = n ∧ ∃ p q f, w.heap.size ≤ p ∧ Mat w' p q X n xc m f ∧ InB t f) ∧ Below w.heap.size w w' := by
  have h8 := ht.n8
  have h8' := ht.m8
  have h1m := ht.m1
  rw [en] at h8
  rw [em] at h8' h1m
  have HT := Lib.hid ht
  have EN := Lib.hid en
  have EM := Lib.hid em
  obtain ⟨T0, hT0⟩ : ∃ T0, w.heap.size = T0 := ⟨_, rfl⟩
  have HT0 := Lib.hid hT0
  have b0 := below_new w (.cells #[.slice R n rc, .slice C m cc, .slice L n lc, .slice H n hc] 54)
  have x0 := box_new w #[.slice R n rc, .slice C m cc, .slice L n lc, .slice H n hc] 54
  have hz0 : (w.alloc (.cells #[.slice R n rc, .slice C m cc, .slice L n lc, .slice H n hc] 54)).heap.size = T0 + 1 := by rw [← hT0]; simp
  have hk0 := NetK.old hN b0
  rw [hT0] at x0 hk0
  have c0 := box_cell x0 0 (.slice R n rc) rfl
  have c1 := box_cell x0 1 (.slice C m cc) rfl
  have c2 := box_cell x0 2 (.slice L n lc) rfl
  have c3 := box_cell x0 3 (.slice H n hc) rfl
  have B0 := Lib.hid b0
  have X0 := Lib.hid x0
  have HK0 := Lib.hid hk0
  have HZ0 := Lib.hid hz0
  clear hN ht en em b0 x0 hk0 hz0
  go_enter Try.func33, Try.ntmps33
  go_wp2_with fail
  generalize w.alloc (.cells #[.slice R n rc, .slice C m cc, .slice L n lc, .slice H n hc] 54) = w1 at *
  refine (tFeasible_any n m R C L H rc cc lc hc t _ EN.out EM.out HK0.out.now HT.out).mono ?_
  rintro e w2 ⟨X, xn, xc, r, rfl, hr, b2⟩
  have X2 := Lib.hid (box_below X0.out b2)
  have HK2 := Lib.hid (HK0.out.below b2)
  have HB2 := Lib.hid (B0.out.trans (b2.mono B0.out.size))
  have HZ2 : Hid (T0 < w2.heap.size) := Lib.hid (by have := b2.size; have := HZ0.out; omega)
  have HR := Lib.hid hr
  clear c0 c1 c2 c3 b2 hr
  cases r
  case false =>
    go_wp2
    go_ret2
    exact ⟨none, 0, 0, false, rfl, HR.out, (fun h => by cases h), HB2.out⟩
  case true =>
    have HFe := Lib.hid (HR.out.1 rfl)
    have HS0 := Lib.hid (SubN.refl HT.out)
    have d0 := box_cell X2.out 0 (.slice R n rc) rfl
    go_wp2_with fail
    clear d0
    go_loopw [19] (fun iv wr => ∃ (k : Nat) (s : Net) (L' H' : Option Addr) (lc' hc' : Nat), k ≤ n ∧ iv = .int .i64 k ∧ Hid (SubN s t) ∧ Hid (wr.heap[T0]? = some (.cells #[.slice R n rc, .slice C m cc, .slice L' n lc', .slice H' n hc'] 54 (0, 0))) ∧ Hid (NetK wr T0 R C L' H' s) ∧ Hid (Below w.heap.size w wr) ∧ Hid (T0 < wr.heap.size)) (fun iv _ => n - (intOf iv).toNat)
    case atStart => exact ⟨0, t, L, H, lc, hc, Nat.zero_le _, rfl, HS0, X2, HK2, HB2, HZ2⟩
    case round =>
      clear HS0 X2 HK2 HB2 HZ2
      obtain ⟨k, s, L', H', lc', hc', hk, rfl, HS, HX, HK, HB, HZ⟩ := hrel
      by_cases hlt : k < n
      case neg =>
        have hs1 : s.n = n := HS.out.n.trans EN.out
        have hs2 : s.m = m := HS.out.m.trans EM.out
        have hml := HK.out.now.lo
        rw [hs1, hs2] at hml
        have HML := Lib.hid hml
        have d2 := box_cell HX.out 2 (.slice L' n lc') rfl
        clear hml hs1 hs2
        go_wp2_with fail
        refine (tOwn_any L' n lc' m s.lo _ HML.out (by omega) (by omega) (by omega)).mono ?_
        rintro e w5 ⟨X5, c5, rfl, o5, b5⟩
        have HO5 := Lib.hid o5
        have HP5 := HB.out.size
        have HB5 := Lib.hid (HB.out.trans (b5.mono HB.out.size))
        have HIn : Hid (InB t s.lo) := Lib.hid (fun i j hi hj => by
          have h1 := HS.out.lo i j hi hj
          have h2 := HS.out.hi i j hi hj
          have h3 := HS.out.b.b i j (by rw [HS.out.n]; exact hi) (by rw [HS.out.m]; exact hj)
          omega)
        clear o5 b5 d2
        go_wp2
        go_ret2
        exact ⟨X5, n, c5, true, rfl, ⟨fun _ => HFe.out, fun _ => rfl⟩, fun _ => ⟨rfl, _, _, s.lo, HP5, HO5.out, HIn.out⟩, HB5.out⟩
      case pos =>
        have d1 := box_cell HX.out 1 (.slice C m cc) rfl
        go_wp2_with fail
        clear d1
        go_loopw [25] (fun jv wr => ∃ (q : Nat) (s : Net) (L' H' : Option Addr) (lc' hc' : Nat), q ≤ m ∧ jv = .int .i64 q ∧ Hid (SubN s t) ∧ Hid (wr.heap[T0]? = some (.cells #[.slice R n rc, .slice C m cc, .slice L' n lc', .slice H' n hc'] 54 (0, 0))) ∧ Hid (NetK wr T0 R C L' H' s) ∧ Hid (Below w.heap.size w wr) ∧ Hid (T0 < wr.heap.size)) (fun jv _ => m - (intOf jv).toNat)
        case atStart => exact ⟨0, s, L', H', lc', hc', Nat.zero_le _, rfl, HS, HX, HK, HB, HZ⟩
        case round =>
          clear HS HX HK HB HZ
          obtain ⟨q, s, L', H', lc', hc', hq, rfl, HS, HX, HK, HB, HZ⟩ := hrel
          by_cases hlq : q < m
          case neg =>
            go_wp2
            go_roundw
            case rel => exact ⟨k + 1, s, L', H', lc', hc', by omega, by go_num, HS, HX, HK, HB, HZ⟩
            case measure => simp [intOf]; omega
          case pos =>
            have hs1 : s.n = n := HS.out.n.trans EN.out
            have hs2 : s.m = m := HS.out.m.trans EM.out
            have S1 := Lib.hid hs1
            have S2 := Lib.hid hs2
            have d0 := box_cell HX.out 0 (.slice R n rc) rfl
            have d1 := box_cell HX.out 1 (.slice C m cc) rfl
            have d2 := box_cell HX.out 2 (.slice L' n lc') rfl
            have d3 := box_cell HX.out 3 (.slice H' n hc') rfl
            clear hs1 hs2
            go_wp2_with fail
            refine (tLow_any n m k q R C L' H' rc cc lc' hc' s _ S1.out S2.out HK.out.now HS.out.b hlt hlq).mono ?_
            rintro e w5 ⟨v, rfl, hv1, hv2, _, b5⟩
            have X5 := Lib.hid (box_below HX.out b5)
            have HK5 := Lib.hid (HK.out.below b5)
            have HB5 := Lib.hid (HB.out.trans (b5.mono HB.out.size))
            have HZ5 : Hid (T0 < w5.heap.size) := Lib.hid (Nat.lt_of_lt_of_le HZ.out b5.size)
            have HS5 := Lib.hid (HS.out.set (i := k) (j := q) (by rw [EN.out]; exact hlt) (by rw [EM.out]; exact hlq) hv1 hv2)
            clear d0 d1 d2 d3 b5 hv1 hv2 HX HK HB HZ
            have d0 := box_cell X5.out 0 (.slice R n rc) rfl
            have d1 := box_cell X5.out 1 (.slice C m cc) rfl
            have d2 := box_cell X5.out 2 (.slice L' n lc') rfl
            have d3 := box_cell X5.out 3 (.slice H' n hc') rfl
            go_wp2_with fail
            refine (tWith_any n m k q v v R C L' H' rc cc lc' hc' s _ S1.out S2.out HK5.out.now h1m h8 h8' hlt hlq).mono ?_
            rintro e w6 ⟨L6, H6, lc6, hc6, rfl, n6, b6, p1, q1, p2, q2, hp1, hp2, o1, o2⟩
            have x6 := box_below X5.out b6
            have e0 := box_cell x6 0 (.slice R n rc) rfl
            have e1 := box_cell x6 1 (.slice C m cc) rfl
            have e2 := box_cell x6 2 (.slice L' n lc') rfl
            have e3 := box_cell x6 3 (.slice H' n hc') rfl
            have f0 := box_free x6 0
            have f1 := box_free x6 1
            have f2 := box_free x6 2
            have f3 := box_free x6 3
            have X7 := Lib.hid (box_set (box_set (box_set (box_set x6 0 (.slice R n rc)) 1 (.slice C m cc)) 2 (.slice L6 n lc6)) 3 (.slice H6 n hc6))
            have hc7 := ((((Chg.refl T0 (T0 + 1) w6).set (i := 0) (v := .slice R n rc) (Nat.le_refl _) (by omega)).set (i := 1) (v := .slice C m cc) (Nat.le_refl _) (by omega)).set (i := 2) (v := .slice L6 n lc6) (Nat.le_refl _) (by omega)).set (i := 3) (v := .slice H6 n hc6) (Nat.le_refl _) (by omega)
            have HK7 := Lib.hid ((HK5.out.with_ HZ5.out b6 hp1 hp2 (by rw [S1.out, S2.out]; exact o1) (by rw [S1.out, S2.out]; exact o2)).chg hc7)
            have HB7 := Lib.hid (hc7.below (HB5.out.trans (b6.mono HB5.out.size)) (by rw [HT0.out]; exact Nat.le_refl _) (Nat.le_trans HB5.out.size b6.size))
            have HZ7 := Lib.hid (Nat.lt_of_lt_of_le (Nat.lt_of_lt_of_le HZ5.out b6.size) hc7.size)
            clear d0 d1 d2 d3 n6 b6 hp1 hp2 o1 o2 x6 hc7 X5 HK5 HB5 HZ5
            go_wp2
            go_roundw
            case rel => exact ⟨q + 1, _, L6, H6, lc6, hc6, by omega, by go_num, HS5, X7, HK7, HB7, HZ7⟩
            case measure => simp [intOf]; omega
end
end Go.Proofs.Ytcjmapdeopffcaa
