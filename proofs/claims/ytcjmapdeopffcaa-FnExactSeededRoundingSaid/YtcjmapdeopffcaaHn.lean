/- Several small texts in one: QeA, LSeededRounding. -/
import Derived.Test.YtcjmapdeopffcaaPuX
import Derived.Test.YtcjmapdeopffcaaHb
namespace Go.Proofs.Ytcjmapdeopffcaa

section
open Go.RowKit Flo
set_option linter.unusedVariables false

/-- A rounding as a reader sees it. -/
structure RnR (w : World) (X R C : Option Addr) (nx nr nc : Nat) (L : Nat → List Int) (rs cs : List Int) : Prop where
  x : IntsS w X nx L
  r : Ints w R nr rs
  c : Ints w C nc cs
/-- A rounding in memory of the call's own, from lo on and below hi. -/
structure RnO (w : World) (lo hi : Nat) (X R C : Option Addr) (nx xc nr rc nc cc : Nat) (L : Nat → List Int) (rs cs : List Int) : Prop where
  ex : ∃ x0 x1 r0 r1 c0 c1, OwnII w x0 x1 X nx xc L ∧ OwnI w r0 r1 R nr rc rs ∧ OwnI w c0 c1 C nc cc cs ∧ lo ≤ x0 ∧ lo ≤ r0 ∧ lo ≤ c0 ∧ x1 ≤ hi ∧ r1 ≤ hi ∧ c1 ≤ hi ∧ (x1 ≤ r0 ∨ r1 ≤ x0) ∧ (x1 ≤ c0 ∨ c1 ≤ x0) ∧ (r1 ≤ c0 ∨ c1 ≤ r0)
section
variable {w w' : World} {lo hi lo' hi' nx xc nr rc nc cc n c : Nat} {A X R C : Option Addr} {L : Nat → List Int} {rs cs xs : List Int}
theorem RnR.below (h : RnR w X R C nx nr nc L rs cs) (hb : Below w.heap.size w w') : RnR w' X R C nx nr nc L rs cs := ⟨IntsS.below h.x hb, Ints.below h.r hb, Ints.below h.c hb⟩
theorem RnO.below (h : RnO w lo hi X R C nx xc nr rc nc cc L rs cs) (hb : Below w.heap.size w w') : RnO w' lo hi X R C nx xc nr rc nc cc L rs cs := by
  obtain ⟨x0, x1, r0, r1, c0, c1, a, r, c, hh⟩ := h.ex
  exact ⟨x0, x1, r0, r1, c0, c1, a.below hb, r.below hb, c.below hb, hh⟩
theorem RnO.chg (h : RnO w lo hi X R C nx xc nr rc nc cc L rs cs) (hc : Chg lo' hi' w w') (hd : hi ≤ lo' ∨ hi' ≤ lo) : RnO w' lo hi X R C nx xc nr rc nc cc L rs cs := by
  obtain ⟨x0, x1, r0, r1, c0, c1, a, r, c, h1, h2, h3, h4, h5, h6, hh⟩ := h.ex
  exact ⟨x0, x1, r0, r1, c0, c1, a.chg hc (by omega), r.chg hc (by omega), c.chg hc (by omega), h1, h2, h3, h4, h5, h6, hh⟩
theorem RnO.read (h : RnO w lo hi X R C nx xc nr rc nc cc L rs cs) : RnR w X R C nx nr nc L rs cs := by
  obtain ⟨x0, x1, r0, r1, c0, c1, a, r, c, hh⟩ := h.ex
  exact ⟨a.read, r.ints, c.ints⟩
theorem OwnI.cap (h : OwnI w lo hi A n c xs) : OwnI w lo (min hi w.heap.size) A n c xs :=
  ⟨h.own, fun k hk => by have h1 := h.top k hk; have h2 := (h.own.row_ge k hk).2; omega, h.small⟩
theorem OwnII.cap (h : OwnII w lo hi A n c L) : OwnII w lo (min hi w.heap.size) A n c L := by
  obtain ⟨ys, h1, h2⟩ := h.cells
  refine ⟨⟨ys, h1, ⟨fun j p q => ?_, h2.apart⟩⟩, fun g hg => ?_, h.small⟩
  · obtain ⟨V, c, e, ho⟩ := h2.row j p q
    exact ⟨V, c, e, ho.cap⟩
  · have a1 := h.top g hg
    have a2 := (World.ownsRow.lt h1 g (by simpa [ownBlock_row] using hg)).2
    omega
end
/-- What a function that rounds answers. -/
def oN (k : Nat) (o : Option (Nat → Nat → Int)) : Nat := match o with | none => 0 | some _ => k
def oL (m : Nat) (o : Option (Nat → Nat → Int)) : Nat → List Int := fun i => match o with | none => [] | some Y => lst m (Y i)
def oR (n m : Nat) (o : Option (Nat → Nat → Int)) : List Int := match o with | none => [] | some Y => lst n (rowS m Y)
def oC (n m : Nat) (o : Option (Nat → Nat → Int)) : List Int := match o with | none => [] | some Y => lst m (colS n Y)
def oT (n m : Nat) (o : Option (Nat → Nat → Int)) : Int := match o with | none => 0 | some Y => totS n m Y
def oK (o : Option (Nat → Nat → Int)) : Bool := match o with | none => false | some _ => true
def RetC (w : World) (n m : Nat) (L : Nat → List Int) (rs cs : List Int) (t : Int) (k : Bool) (e : Ending) (w' : World) : Prop :=
  ∃ (X R C : Option Addr) (xc rc cc : Nat), e = .returned (.tuple #[.agg #[.slice X n xc, .slice R n rc, .slice C m cc, .int .i64 t], .bool k]) ∧ RnO w' w.heap.size w'.heap.size X R C n xc n rc m cc L rs cs ∧ Below w.heap.size w w'
theorem OwnI.nil_ {w : World} {lo hi : Nat} : OwnI w lo hi none 0 0 [] := ⟨Own.nil_, (fun k hk => by cases hk), by omega⟩
theorem RnO.nil_ {w : World} {lo hi : Nat} {L : Nat → List Int} (h : lo ≤ hi) : RnO w lo hi none none none 0 0 0 0 0 0 L [] [] :=
  ⟨lo, lo, lo, lo, lo, lo, OwnII.nil_, OwnI.nil_, OwnI.nil_, by omega, by omega, by omega, by omega, by omega, by omega, by omega, by omega, by omega⟩
theorem RndP.rnO {w : World} {B n m xc rc cc : Nat} {X R C : Option Addr} {y : Nat → Nat → Int} (h : RndP w B X R C n m xc rc cc y) : RnO w B w.heap.size X R C n xc n rc m cc (fun i => lst m (y i)) (lst n (rowS m y)) (lst m (colS n y)) := by
  obtain ⟨x0, x1, r0, r1, c0, c1, a, r, c, h1, h2, h3, h4, h5, h6⟩ := h.ex
  exact ⟨x0, _, r0, _, c0, _, a.cap, r.cap, c.cap, h1, h2, h3, by omega, by omega, by omega, by omega, by omega, by omega⟩
theorem RndO.rnO {w : World} {B p0 p1 p2 p3 n m xc rc cc : Nat} {X R C : Option Addr} {y : Nat → Nat → Int} (h : RndO w p0 p1 p2 p3 X R C n m xc rc cc y) (hB : B ≤ p0) : RnO w B w.heap.size X R C n xc n rc m cc (fun i => lst m (y i)) (lst n (rowS m y)) (lst m (colS n y)) := by
  have l0 := h.l0
  have l1 := h.l1
  exact ⟨p0, _, p1, _, p2, _, h.a.cap, h.r.cap, h.c.cap, hB, by omega, by omega, by omega, by omega, by omega, by omega, by omega, by omega⟩
theorem retC_none {w w' : World} {n m : Nat} (hb : Below w.heap.size w w') : RetC w (oN n none) (oN m none) (oL m none) (oR n m none) (oC n m none) (oT n m none) (oK none) (.returned (.tuple #[.agg #[.slice none 0 0, .slice none 0 0, .slice none 0 0, .int .i64 0], .bool false])) w' :=
  ⟨none, none, none, 0, 0, 0, rfl, RnO.nil_ hb.size, hb⟩
theorem RetRndP.c {w w' : World} {n m : Nat} {o : Option (Nat → Nat → Int)} {e : Ending} (h : RetRndP w n m o e w') : RetC w (oN n o) (oN m o) (oL m o) (oR n m o) (oC n m o) (oT n m o) (oK o) e w' := by
  cases o with
  | none => rw [h.1 rfl]; exact retC_none h.2.2
  | some Y =>
    obtain ⟨X, R, C, xc, rc, cc, he, hp⟩ := h.2.1 Y rfl
    exact ⟨X, R, C, xc, rc, cc, he, hp.rnO, h.2.2⟩
theorem RetRnd.c {w w' : World} {n m : Nat} {o : Option (Nat → Nat → Int)} {e : Ending} (h : RetRnd w n m o e w') : RetC w (oN n o) (oN m o) (oL m o) (oR n m o) (oC n m o) (oT n m o) (oK o) e w' := by
  cases o with
  | none => rw [h.1 rfl]; exact retC_none h.2.2
  | some Y =>
    obtain ⟨p0, p1, p2, p3, X, R, C, xc, rc, cc, he, hp, h0⟩ := h.2.1 Y rfl
    exact ⟨X, R, C, xc, rc, cc, he, hp.rnO h0, h.2.2⟩
/-- Both sides answer alike. -/
theorem sr_both (n : Nat) (L : Nat → List Int) (b sd : Int) (hn : n ≤ 1099511627776) (hL : ∀ j, j < n → (L j).length ≤ 1099511627776) :
    ∃ (N M : Nat) (K : Nat → List Int) (rs cs : List Int) (t : Int) (ok : Bool), N ≤ 7 ∧ M ≤ 7 ∧ (∀ j, j < N → (K j).length ≤ 7) ∧
      (∀ (A : Option Addr) (c : Nat) (w : World), IntsS w A n L → Calls Try.prog 6 #[.slice A n c, .int .i64 b, .int .i64 sd] w (RetC w N M K rs cs t ok)) ∧
      (∀ (A : Option Addr) (c : Nat) (w : World), IntsS w A n L → Calls Try.prog 8 #[.slice A n c, .int .i64 b, .int .i64 sd] w (RetC w N M K rs cs t ok)) := by
  obtain ⟨o, ho⟩ : ∃ o, o = rndL n L b sd := ⟨_, rfl⟩
  have hb : o ≠ none → n ≤ 7 ∧ (L 0).length ≤ 7 := fun h => by
    by_cases hg : (inR b 2 100 && mxB n L) = true ∧ inR sd 0 4611686016279904236 = true
    · have h1 := hg.1
      rw [Bool.and_eq_true] at h1
      obtain ⟨_, h2, _, h3, _⟩ := mxB_of h1.2
      exact ⟨h2, h3⟩
    · rw [ho] at h
      unfold rndL at h
      rw [if_neg hg] at h
      exact absurd rfl h
  refine ⟨oN n o, oN (L 0).length o, oL (L 0).length o, oR n (L 0).length o, oC n (L 0).length o, oT n (L 0).length o, oK o, ?_, ?_, ?_, fun A c w hx => (specSR_any A n c b sd L w hx hn hL).mono fun e w' h => ?_, fun A c w hx => (implSR_any A n c b sd L w hx hn hL).mono fun e w' h => ?_⟩
  · cases o with
    | none => exact Nat.zero_le _
    | some Y => exact (hb (fun h => by cases h)).1
  · cases o with
    | none => exact Nat.zero_le _
    | some Y => exact (hb (fun h => by cases h)).2
  · cases o with
    | none => exact fun j hj => absurd hj (Nat.not_lt_zero _)
    | some Y => exact fun j _ => by show (lst _ _).length ≤ 7; rw [lst_len]; exact (hb (fun h => by cases h)).2
  · rw [ho]; exact h.c
  · rw [ho]; exact h.c

set_option maxRecDepth 100000 in
set_option maxHeartbeats 2000000 in
theorem eqRounding_law (X R C X' R' C' : Option Addr) (nx nr nc xc rc cc xc' rc' cc' : Nat) (L : Nat → List Int) (rs cs : List Int) (t : Int) (w : World) (hx : RnR w X R C nx nr nc L rs cs) (hy : RnR w X' R' C' nx nr nc L rs cs) (h1 : nx ≤ 7) (h2 : nr ≤ 7) (h3 : nc ≤ 7) (hL : ∀ j, j < nx → (L j).length ≤ 7) :
    Calls Try.prog 9 #[.agg #[.slice X nx xc, .slice R nr rc, .slice C nc cc, .int .i64 t], .agg #[.slice X' nx xc', .slice R' nr rc', .slice C' nc cc', .int .i64 t]] w fun e w' => e = .returned (.bool true) ∧ Below w.heap.size w w' := by
  obtain ⟨b0, x1, x2⟩ := box_two w #[.slice X nx xc, .slice R nr rc, .slice C nc cc, .int .i64 t] #[.slice X' nx xc', .slice R' nr rc', .slice C' nc cc', .int .i64 t] 26 26
  have HX := Lib.hid (hx.below b0)
  have HY := Lib.hid (hy.below b0)
  have HL : Hid (∀ j, j < nx → (L j).length ≤ 1099511627776) := Lib.hid (fun j hj => Nat.le_trans (hL j hj) (by omega))
  have B0 := Lib.hid b0
  clear hx hy hL
  go_enter Try.func9, Try.ntmps9
  have c0 := box_cell x1 0 _ rfl
  have d0 := box_cell x2 0 _ rfl
  have X1 := Lib.hid x1
  have X2 := Lib.hid x2
  clear b0 x1 x2
  go_wp2_with fail
  refine (eqIntSS_law _ _ nx _ _ L _ HX.out.x HY.out.x (by omega) HL.out).mono ?_
  rintro e w2 ⟨rfl, b2⟩
  have B2 := Lib.hid (B0.out.trans (b2.mono B0.out.size))
  have Y1 := Lib.hid (box_below X1.out b2)
  have Y2 := Lib.hid (box_below X2.out b2)
  have HX2 := Lib.hid (HX.out.below b2)
  have HY2 := Lib.hid (HY.out.below b2)
  have c1 := box_cell Y1.out 1 _ rfl
  have d1 := box_cell Y2.out 1 _ rfl
  clear c0 d0 b2
  go_wp2_with fail
  refine (eqIntS_law _ _ nr _ _ rs _ HX2.out.r HY2.out.r (by omega)).mono ?_
  rintro e w3 ⟨rfl, b3⟩
  have B3 := Lib.hid (B2.out.trans (b3.mono B2.out.size))
  have Z1 := Lib.hid (box_below Y1.out b3)
  have Z2 := Lib.hid (box_below Y2.out b3)
  have HX3 := Lib.hid (HX2.out.below b3)
  have HY3 := Lib.hid (HY2.out.below b3)
  have c2 := box_cell Z1.out 2 _ rfl
  have d2 := box_cell Z2.out 2 _ rfl
  clear c1 d1 b3
  go_wp2_with fail
  refine (eqIntS_law _ _ nc _ _ cs _ HX3.out.c HY3.out.c (by omega)).mono ?_
  rintro e w4 ⟨rfl, b4⟩
  have B4 := Lib.hid (B3.out.trans (b4.mono B3.out.size))
  have c3 := box_cell (box_below Z1.out b4) 3 _ rfl
  have d3 := box_cell (box_below Z2.out b4) 3 _ rfl
  clear c2 d2 b4
  go_wp2
  go_ret
  exact ⟨rfl, B4.out⟩

set_option maxRecDepth 100000 in
set_option maxHeartbeats 2000000 in
theorem markRounding_law (X R C : Option Addr) (lo hi nx nr nc xc rc cc : Nat) (k0 t : Int) (L : Nat → List Int) (rs cs : List Int) (w : World) (hx : RnO w lo hi X R C nx xc nr rc nc cc L rs cs) (hh : hi ≤ w.heap.size) (h1 : nx ≤ 7) (h2 : nr ≤ 7) (h3 : nc ≤ 7) (hL : ∀ j, j < nx → (L j).length ≤ 7) (k1 : 0 ≤ k0) (k2 : k0 ≤ 100) :
    Calls Try.prog 12 #[.agg #[.slice X nx xc, .slice R nr rc, .slice C nc cc, .int .i64 t], .int .i64 k0] w fun e w' => e = .returned (.int .i64 (k0 + sumLen L nx + nr + nc)) ∧ RnO w' lo hi X R C nx xc nr rc nc cc (markL k0 L) (marks (k0 + sumLen L nx) nr) (marks (k0 + sumLen L nx + nr) nc) ∧ Chg lo hi w w' := by
  have b0 := below_new w (.cells #[.slice X nx xc, .slice R nr rc, .slice C nc cc, .int .i64 t] 26)
  have x0 := box_new w #[.slice X nx xc, .slice R nr rc, .slice C nc cc, .int .i64 t] 26
  have hb := sumLen_le (fun j hj => Nat.le_trans (hL j hj) (show 7 ≤ 1048576 by omega)) nx (Nat.le_refl _)
  have HL : Hid (∀ j, j < nx → (L j).length ≤ 1048576) := Lib.hid (fun j hj => Nat.le_trans (hL j hj) (by omega))
  obtain ⟨p0, p1, r0, r1, q0, q1, a, r, c, g1, g2, g3, g4, g5, g6, g7, g8, g9⟩ := hx.ex
  have HA := Lib.hid (a.below b0)
  have HR := Lib.hid (r.below b0)
  have HC := Lib.hid (c.below b0)
  have B0 := Lib.hid b0
  have X0 := Lib.hid x0
  obtain ⟨s, hs⟩ : ∃ s, s = sumLen L nx := ⟨_, rfl⟩
  rw [← hs] at hb ⊢
  have HS := Lib.hid hs
  clear hx hL a r c b0 hs
  go_enter Try.func12, Try.ntmps12
  have c0 := box_cell x0 0 _ rfl
  clear x0
  go_wp2_with fail
  refine (markIntSS_law _ p0 p1 nx _ k0 L _ HA.out (by omega) HL.out k1 (by omega)).mono ?_
  rintro e w2 ⟨rfl, a2, b2⟩
  rw [← HS.out]
  have B2 := Lib.hid ((Chg.of_below B0.out (lo := lo) (hi := hi)).trans (b2.mono g1 g4))
  have HA2 := Lib.hid a2
  have HR2 := Lib.hid (HR.out.chg b2 (by omega))
  have HC2 := Lib.hid (HC.out.chg b2 (by omega))
  have X2 := Lib.hid ((b2.block _ (lt_of_block X0.out) (.inr (by omega))).trans X0.out)
  clear a2 b2 c0
  have c1 := box_cell X2.out 1 _ rfl
  go_wp2_with fail
  refine (markIntS_law _ r0 r1 nr _ (k0 + s) rs _ HR2.out (by omega) (by omega)).mono ?_
  rintro e w3 ⟨rfl, a3, b3⟩
  have B3 := Lib.hid (B2.out.trans (b3.mono g2 g5))
  have HA3 := Lib.hid (HA2.out.chg b3 (by omega))
  have HR3 := Lib.hid a3
  have HC3 := Lib.hid (HC2.out.chg b3 (by omega))
  have X3 := Lib.hid ((b3.block _ (lt_of_block X2.out) (.inr (by omega))).trans X2.out)
  clear a3 b3 c1
  have c2 := box_cell X3.out 2 _ rfl
  go_wp2_with fail
  refine (markIntS_law _ q0 q1 nc _ (k0 + s + nr) cs _ HC3.out (by omega) (by omega)).mono ?_
  rintro e w4 ⟨rfl, a4, b4⟩
  have B4 := Lib.hid (B3.out.trans (b4.mono g3 g6))
  have HA4 := Lib.hid (HA3.out.chg b4 (by omega))
  have HR4 := Lib.hid (HR3.out.chg b4 (by omega))
  have HF : Hid (RnO w4 lo hi X R C nx xc nr rc nc cc (markL k0 L) (marks (k0 + s) nr) (marks (k0 + s + nr) nc)) := Lib.hid ⟨p0, p1, r0, r1, q0, q1, HA4.out, HR4.out, a4, g1, g2, g3, g4, g5, g6, g7, g8, g9⟩
  clear a4 b4 c2
  go_wp2
  go_ret
  exact ⟨rfl, HF.out, B4.out⟩

set_option maxRecDepth 100000 in
set_option maxHeartbeats 2000000 in
theorem heldRounding_law (X R C : Option Addr) (nx nr nc xc rc cc : Nat) (k0 t : Int) (L : Nat → List Int) (w : World) (hx : RnR w X R C nx nr nc (markL k0 L) (marks (k0 + sumLen L nx) nr) (marks (k0 + sumLen L nx + nr) nc)) (h1 : nx ≤ 7) (h2 : nr ≤ 7) (h3 : nc ≤ 7) (hL : ∀ j, j < nx → (L j).length ≤ 7) (k1 : 0 ≤ k0) (k2 : k0 ≤ 100) :
    Calls Try.prog 13 #[.agg #[.slice X nx xc, .slice R nr rc, .slice C nc cc, .int .i64 t], .int .i64 k0] w fun e w' => e = .returned (.int .i64 (k0 + sumLen L nx + nr + nc)) ∧ Below w.heap.size w w' := by
  have b0 := below_new w (.cells #[.slice X nx xc, .slice R nr rc, .slice C nc cc, .int .i64 t] 26)
  have x0 := box_new w #[.slice X nx xc, .slice R nr rc, .slice C nc cc, .int .i64 t] 26
  have hb := sumLen_le (fun j hj => Nat.le_trans (hL j hj) (show 7 ≤ 1048576 by omega)) nx (Nat.le_refl _)
  have HL : Hid (∀ j, j < nx → (L j).length ≤ 1048576) := Lib.hid (fun j hj => Nat.le_trans (hL j hj) (by omega))
  have HX := Lib.hid (hx.below b0)
  have B0 := Lib.hid b0
  have X0 := Lib.hid x0
  obtain ⟨s, hs⟩ : ∃ s, s = sumLen L nx := ⟨_, rfl⟩
  rw [← hs] at hb HX ⊢
  have HS := Lib.hid hs
  clear hx hL b0 hs
  go_enter Try.func13, Try.ntmps13
  have c0 := box_cell x0 0 _ rfl
  clear x0
  go_wp2_with fail
  refine (heldIntSS_law _ nx _ k0 L _ HX.out.x (by omega) HL.out k1 (by omega)).mono ?_
  rintro e w2 ⟨rfl, b2⟩
  rw [← HS.out]
  have B2 := Lib.hid (B0.out.trans (b2.mono B0.out.size))
  have HX2 := Lib.hid (HX.out.below b2)
  have X2 := Lib.hid (box_below X0.out b2)
  clear b2 c0
  have c1 := box_cell X2.out 1 _ rfl
  go_wp2_with fail
  refine (heldIntS_law _ nr _ (k0 + s) _ HX2.out.r (by omega) (by omega) (by omega)).mono ?_
  rintro e w3 ⟨rfl, b3⟩
  have B3 := Lib.hid (B2.out.trans (b3.mono B2.out.size))
  have HX3 := Lib.hid (HX2.out.below b3)
  have X3 := Lib.hid (box_below X2.out b3)
  clear b3 c1
  have c2 := box_cell X3.out 2 _ rfl
  go_wp2_with fail
  refine (heldIntS_law _ nc _ (k0 + s + nr) _ HX3.out.c (by omega) (by omega) (by omega)).mono ?_
  rintro e w4 ⟨rfl, b4⟩
  have B4 := Lib.hid (B3.out.trans (b4.mono B3.out.size))
  clear b4 c2
  go_wp2
  go_ret
  exact ⟨rfl, B4.out⟩
end

section
open Go.RowKit Flo
set_option linter.unusedVariables false

set_option maxRecDepth 100000 in
set_option maxHeartbeats 4000000 in
theorem walk_FnExactSeededRounding (A : Option Addr) (n c : Nat) (z : Nat → List Int) (a1 a2 : Int) (w : World) (r : IntsS w A n z) (m0 : n ≤ maxLen) (s0 : ∀ j, j < n → (z j).length ≤ maxLen) (_w1 : (Lit.int .i64 a1).wf = true) (_w2 : (Lit.int .i64 a2).wf = true) :
    Calls Try.prog 3 #[.slice A n c, .int .i64 a1, .int .i64 a2] w fun e w' => e = .returned (.bool true) ∧ Below w.heap.size w w' := by
  unfold maxLen at m0 s0
  go_enter Try.func3, Try.ntmps3
  have B0 : Below w.heap.size w w := Below.refl _ _
  go_wp2_with fail
  have s0' : ∀ j, j < n → (z j).length ≤ 9223372036854775807 := fun j hj => by have := s0 j hj; omega
  refine (szIntSS_any _ n _ _ z _ (r.below B0) s0' (by omega) (by omega) (by omega)).mono ?_
  rintro e w1 ⟨⟨l, rfl, p, q, k⟩, b1⟩
  have B1 := B0.trans (b1.mono B0.size)
  have S1 := b1.size
  clear b1
  have Z0 := Lib.hid B0
  clear B0 Z0
  by_cases g : l < 0
  · go_wp2
    go_ret
    exact ⟨rfl, B1⟩
  replace k := k (by omega)
  have e1 := k.1
  have T0 : Hid (∀ j, j < n → (z j).length ≤ 1099511627776) := Lib.hid fun j hj => by have := k.2 j hj; omega
  have T1 : Hid (∀ j, j < n → (z j).length ≤ 1048576) := Lib.hid fun j hj => by have := k.2 j hj; omega
  clear k s0 s0' m0
  obtain ⟨N, M, K, rs, cs, t, ok, hN, hM, hK, hspec, himpl⟩ := sr_both n z a1 a2 (by omega) T0.out
  have HK := Lib.hid hK
  have Hspec := Lib.hid hspec
  have Himpl := Lib.hid himpl
  clear hK hspec himpl
  go_wp2_with fail
  refine (toIntSS_law _ _ _ z _ (r.below B1) (by omega) T0.out).mono ?_
  rintro e w2 ⟨A_t1, c_t1, rfl, o_t1, b2⟩
  have B2 := B1.trans (b2.mono B1.size)
  have S2 := b2.size
  clear b2
  have Z1 := Lib.hid B1
  clear B1 Z1
  go_wp2_with fail
  refine (Hspec.out _ _ _ o_t1.read).mono ?_
  rintro e w3 ⟨X_w0, R_w0, C_w0, xc_w0, rc_w0, cc_w0, rfl, o_w0, b3⟩
  have B3 := B2.trans (b3.mono B2.size)
  have S3 := b3.size
  replace o_t1 := o_t1.below b3
  clear b3
  have Z2 := Lib.hid B2
  clear B2 Z2
  clear o_t1
  go_wp2_with fail
  have b4 : Below w3.heap.size w3 (w3.alloc (.cells #[.slice X_w0 N xc_w0, .slice R_w0 N rc_w0, .slice C_w0 M cc_w0, .int .i64 t] 26)) := below_new _ _
  have x_w0 : (w3.alloc (.cells #[.slice X_w0 N xc_w0, .slice R_w0 N rc_w0, .slice C_w0 M cc_w0, .int .i64 t] 26)).heap[w3.heap.size]? = some (.cells #[.slice X_w0 N xc_w0, .slice R_w0 N rc_w0, .slice C_w0 M cc_w0, .int .i64 t] 26 (0, 0)) := box_new _ _ _
  have q_w0 : w3.heap.size ≤ w3.heap.size := Nat.le_refl _
  generalize w3.alloc (.cells #[.slice X_w0 N xc_w0, .slice R_w0 N rc_w0, .slice C_w0 M cc_w0, .int .i64 t] 26) = w4 at b4 x_w0 ⊢
  have L_w0 := lt_of_block x_w0
  have B4 := B3.trans (b4.mono B3.size)
  have S4 := b4.size
  replace o_w0 := o_w0.below b4
  clear b4
  have Z3 := Lib.hid B3
  clear B3 Z3
  refine (toIntSS_law _ _ _ z _ (r.below B4) (by omega) T0.out).mono ?_
  rintro e w5 ⟨A_x0, c_x0, rfl, o_x0, b5⟩
  have B5 := B4.trans (b5.mono B4.size)
  have S5 := b5.size
  replace o_w0 := o_w0.below b5
  replace x_w0 := (b5.block _ (lt_of_block x_w0)).trans x_w0
  clear b5
  have Z4 := Lib.hid B4
  clear B4 Z4
  have c0_w0 := box_cell x_w0 0 _ rfl
  have c1_w0 := box_cell x_w0 1 _ rfl
  have c2_w0 := box_cell x_w0 2 _ rfl
  have c3_w0 := box_cell x_w0 3 _ rfl
  have l_w0 := lt_of_block x_w0
  go_wp2_with fail
  clear c0_w0 c1_w0 c2_w0 c3_w0 l_w0
  refine (Himpl.out _ _ _ o_x0.read).mono ?_
  rintro e w6 ⟨X_g0, R_g0, C_g0, xc_g0, rc_g0, cc_g0, rfl, o_g0, b6⟩
  have B6 := B5.trans (b6.mono B5.size)
  have S6 := b6.size
  replace o_w0 := o_w0.below b6
  replace o_x0 := o_x0.below b6
  replace x_w0 := (b6.block _ (lt_of_block x_w0)).trans x_w0
  clear b6
  have Z5 := Lib.hid B5
  clear B5 Z5
  have c0_w0 := box_cell x_w0 0 _ rfl
  have c1_w0 := box_cell x_w0 1 _ rfl
  have c2_w0 := box_cell x_w0 2 _ rfl
  have c3_w0 := box_cell x_w0 3 _ rfl
  have l_w0 := lt_of_block x_w0
  go_wp2_with fail
  clear c0_w0 c1_w0 c2_w0 c3_w0 l_w0
  have b7 : Below w6.heap.size w6 (w6.alloc (.cells #[.slice X_g0 N xc_g0, .slice R_g0 N rc_g0, .slice C_g0 M cc_g0, .int .i64 t] 26)) := below_new _ _
  have x_g0 : (w6.alloc (.cells #[.slice X_g0 N xc_g0, .slice R_g0 N rc_g0, .slice C_g0 M cc_g0, .int .i64 t] 26)).heap[w6.heap.size]? = some (.cells #[.slice X_g0 N xc_g0, .slice R_g0 N rc_g0, .slice C_g0 M cc_g0, .int .i64 t] 26 (0, 0)) := box_new _ _ _
  have q_g0 : w6.heap.size ≤ w6.heap.size := Nat.le_refl _
  generalize w6.alloc (.cells #[.slice X_g0 N xc_g0, .slice R_g0 N rc_g0, .slice C_g0 M cc_g0, .int .i64 t] 26) = w7 at b7 x_g0 ⊢
  have L_g0 := lt_of_block x_g0
  have B7 := B6.trans (b7.mono B6.size)
  have S7 := b7.size
  replace o_w0 := o_w0.below b7
  replace o_x0 := o_x0.below b7
  replace o_g0 := o_g0.below b7
  replace x_w0 := (b7.block _ (lt_of_block x_w0)).trans x_w0
  clear b7
  have Z6 := Lib.hid B6
  clear B6 Z6
  refine (eqRounding_law _ _ _ _ _ _ _ _ _ _ _ _ _ _ _ _ _ _ t _ o_g0.read o_w0.read hN hN hM HK.out).mono ?_
  rintro e w8 ⟨rfl, b8⟩
  have B8 := B7.trans (b8.mono B7.size)
  have S8 := b8.size
  replace o_w0 := o_w0.below b8
  replace o_x0 := o_x0.below b8
  replace o_g0 := o_g0.below b8
  replace x_w0 := (b8.block _ (lt_of_block x_w0)).trans x_w0
  replace x_g0 := (b8.block _ (lt_of_block x_g0)).trans x_g0
  clear b8
  have Z7 := Lib.hid B7
  clear B7 Z7
  have c0_w0 := box_cell x_w0 0 _ rfl
  have c1_w0 := box_cell x_w0 1 _ rfl
  have c2_w0 := box_cell x_w0 2 _ rfl
  have c3_w0 := box_cell x_w0 3 _ rfl
  have l_w0 := lt_of_block x_w0
  have c0_g0 := box_cell x_g0 0 _ rfl
  have c1_g0 := box_cell x_g0 1 _ rfl
  have c2_g0 := box_cell x_g0 2 _ rfl
  have c3_g0 := box_cell x_g0 3 _ rfl
  have l_g0 := lt_of_block x_g0
  go_wp2_with fail
  clear c0_w0 c1_w0 c2_w0 c3_w0 l_w0
  clear c0_g0 c1_g0 c2_g0 c3_g0 l_g0
  refine (toIntSS_law _ _ _ z _ (r.below B8) (by omega) T0.out).mono ?_
  rintro e w9 ⟨A_t3, c_t3, rfl, o_t3, b9⟩
  have B9 := B8.trans (b9.mono B8.size)
  have S9 := b9.size
  replace o_w0 := o_w0.below b9
  replace o_x0 := o_x0.below b9
  replace o_g0 := o_g0.below b9
  replace x_w0 := (b9.block _ (lt_of_block x_w0)).trans x_w0
  replace x_g0 := (b9.block _ (lt_of_block x_g0)).trans x_g0
  clear b9
  have Z8 := Lib.hid B8
  clear B8 Z8
  have c0_w0 := box_cell x_w0 0 _ rfl
  have c1_w0 := box_cell x_w0 1 _ rfl
  have c2_w0 := box_cell x_w0 2 _ rfl
  have c3_w0 := box_cell x_w0 3 _ rfl
  have l_w0 := lt_of_block x_w0
  have c0_g0 := box_cell x_g0 0 _ rfl
  have c1_g0 := box_cell x_g0 1 _ rfl
  have c2_g0 := box_cell x_g0 2 _ rfl
  have c3_g0 := box_cell x_g0 3 _ rfl
  have l_g0 := lt_of_block x_g0
  go_wp2_with fail
  clear c0_w0 c1_w0 c2_w0 c3_w0 l_w0
  clear c0_g0 c1_g0 c2_g0 c3_g0 l_g0
  refine (eqIntSS_law _ _ _ _ _ _ _ o_x0.read o_t3.read (by omega) T0.out).mono ?_
  rintro e w10 ⟨rfl, b10⟩
  have B10 := B9.trans (b10.mono B9.size)
  have S10 := b10.size
  replace o_w0 := o_w0.below b10
  replace o_x0 := o_x0.below b10
  replace o_g0 := o_g0.below b10
  replace o_t3 := o_t3.below b10
  replace x_w0 := (b10.block _ (lt_of_block x_w0)).trans x_w0
  replace x_g0 := (b10.block _ (lt_of_block x_g0)).trans x_g0
  clear b10
  have Z9 := Lib.hid B9
  clear B9 Z9
  clear o_t3
  have c0_w0 := box_cell x_w0 0 _ rfl
  have c1_w0 := box_cell x_w0 1 _ rfl
  have c2_w0 := box_cell x_w0 2 _ rfl
  have c3_w0 := box_cell x_w0 3 _ rfl
  have l_w0 := lt_of_block x_w0
  have c0_g0 := box_cell x_g0 0 _ rfl
  have c1_g0 := box_cell x_g0 1 _ rfl
  have c2_g0 := box_cell x_g0 2 _ rfl
  have c3_g0 := box_cell x_g0 3 _ rfl
  have l_g0 := lt_of_block x_g0
  go_wp2_with fail
  clear c0_w0 c1_w0 c2_w0 c3_w0 l_w0
  clear c0_g0 c1_g0 c2_g0 c3_g0 l_g0
  have p_x0 := o_x0
  clear o_x0
  refine (markIntSS_law _ _ _ _ _ _ _ _ p_x0 (by omega) T1.out (by omega) (by omega)).mono ?_
  rintro e w11 ⟨rfl, o_x0, b11⟩
  have B11 := b11.below B10 (by omega) B10.size
  have S11 := b11.size
  replace o_w0 := o_w0.chg b11 (by omega)
  replace o_g0 := o_g0.chg b11 (by omega)
  replace x_w0 := (b11.block _ (lt_of_block x_w0) (by omega)).trans x_w0
  replace x_g0 := (b11.block _ (lt_of_block x_g0) (by omega)).trans x_g0
  clear b11
  have Z10 := Lib.hid B10
  clear B10 Z10
  clear p_x0
  clear o_x0
  have hsl := sumLen_le T1.out n (Nat.le_refl _)
  have c0_w0 := box_cell x_w0 0 _ rfl
  have c1_w0 := box_cell x_w0 1 _ rfl
  have c2_w0 := box_cell x_w0 2 _ rfl
  have c3_w0 := box_cell x_w0 3 _ rfl
  have l_w0 := lt_of_block x_w0
  have c0_g0 := box_cell x_g0 0 _ rfl
  have c1_g0 := box_cell x_g0 1 _ rfl
  have c2_g0 := box_cell x_g0 2 _ rfl
  have c3_g0 := box_cell x_g0 3 _ rfl
  have l_g0 := lt_of_block x_g0
  go_wp2_with fail
  clear c0_w0 c1_w0 c2_w0 c3_w0 l_w0
  clear c0_g0 c1_g0 c2_g0 c3_g0 l_g0
  refine (eqRounding_law _ _ _ _ _ _ _ _ _ _ _ _ _ _ _ _ _ _ t _ o_g0.read o_w0.read hN hN hM HK.out).mono ?_
  rintro e w12 ⟨rfl, b12⟩
  have B12 := B11.trans (b12.mono B11.size)
  have S12 := b12.size
  replace o_w0 := o_w0.below b12
  replace o_g0 := o_g0.below b12
  replace x_w0 := (b12.block _ (lt_of_block x_w0)).trans x_w0
  replace x_g0 := (b12.block _ (lt_of_block x_g0)).trans x_g0
  clear b12
  have Z11 := Lib.hid B11
  clear B11 Z11
  clear hsl
  have c0_w0 := box_cell x_w0 0 _ rfl
  have c1_w0 := box_cell x_w0 1 _ rfl
  have c2_w0 := box_cell x_w0 2 _ rfl
  have c3_w0 := box_cell x_w0 3 _ rfl
  have l_w0 := lt_of_block x_w0
  have c0_g0 := box_cell x_g0 0 _ rfl
  have c1_g0 := box_cell x_g0 1 _ rfl
  have c2_g0 := box_cell x_g0 2 _ rfl
  have c3_g0 := box_cell x_g0 3 _ rfl
  have l_g0 := lt_of_block x_g0
  go_wp2_with fail
  clear c0_w0 c1_w0 c2_w0 c3_w0 l_w0
  clear c0_g0 c1_g0 c2_g0 c3_g0 l_g0
  have p_g0 := o_g0
  clear o_g0
  refine (markRounding_law _ _ _ _ _ _ _ _ _ _ _ _ t _ _ _ _ p_g0 (by omega) hN hN hM HK.out (by omega) (by omega)).mono ?_
  rintro e w13 ⟨rfl, o_g0, b13⟩
  have B13 := b13.below B12 (by omega) B12.size
  have S13 := b13.size
  replace o_w0 := o_w0.chg b13 (by omega)
  replace x_w0 := (b13.block _ (lt_of_block x_w0) (by omega)).trans x_w0
  replace x_g0 := (b13.block _ (lt_of_block x_g0) (by omega)).trans x_g0
  clear b13
  have Z12 := Lib.hid B12
  clear B12 Z12
  clear p_g0
  have hsk := sumLen_le (fun j hj => Nat.le_trans (HK.out j hj) (show 7 ≤ 1048576 by omega)) N (Nat.le_refl _)
  have c0_w0 := box_cell x_w0 0 _ rfl
  have c1_w0 := box_cell x_w0 1 _ rfl
  have c2_w0 := box_cell x_w0 2 _ rfl
  have c3_w0 := box_cell x_w0 3 _ rfl
  have l_w0 := lt_of_block x_w0
  have c0_g0 := box_cell x_g0 0 _ rfl
  have c1_g0 := box_cell x_g0 1 _ rfl
  have c2_g0 := box_cell x_g0 2 _ rfl
  have c3_g0 := box_cell x_g0 3 _ rfl
  have l_g0 := lt_of_block x_g0
  go_wp2_with fail
  clear c0_w0 c1_w0 c2_w0 c3_w0 l_w0
  clear c0_g0 c1_g0 c2_g0 c3_g0 l_g0
  refine (heldRounding_law _ _ _ _ _ _ _ _ _ _ t _ _ o_g0.read hN hN hM HK.out (by omega) (by omega)).mono ?_
  rintro e w14 ⟨rfl, b14⟩
  have B14 := B13.trans (b14.mono B13.size)
  have S14 := b14.size
  replace o_w0 := o_w0.below b14
  replace o_g0 := o_g0.below b14
  replace x_w0 := (b14.block _ (lt_of_block x_w0)).trans x_w0
  replace x_g0 := (b14.block _ (lt_of_block x_g0)).trans x_g0
  clear b14
  have Z13 := Lib.hid B13
  clear B13 Z13
  have c0_w0 := box_cell x_w0 0 _ rfl
  have c1_w0 := box_cell x_w0 1 _ rfl
  have c2_w0 := box_cell x_w0 2 _ rfl
  have c3_w0 := box_cell x_w0 3 _ rfl
  have l_w0 := lt_of_block x_w0
  have c0_g0 := box_cell x_g0 0 _ rfl
  have c1_g0 := box_cell x_g0 1 _ rfl
  have c2_g0 := box_cell x_g0 2 _ rfl
  have c3_g0 := box_cell x_g0 3 _ rfl
  have l_g0 := lt_of_block x_g0
  go_wp2_with fail
  clear c0_w0 c1_w0 c2_w0 c3_w0 l_w0
  clear c0_g0 c1_g0 c2_g0 c3_g0 l_g0
  refine (toIntSS_law _ _ _ z _ (r.below B14) (by omega) T0.out).mono ?_
  rintro e w15 ⟨A_t4, c_t4, rfl, o_t4, b15⟩
  have B15 := B14.trans (b15.mono B14.size)
  have S15 := b15.size
  replace o_w0 := o_w0.below b15
  replace o_g0 := o_g0.below b15
  replace x_w0 := (b15.block _ (lt_of_block x_w0)).trans x_w0
  replace x_g0 := (b15.block _ (lt_of_block x_g0)).trans x_g0
  clear b15
  have Z14 := Lib.hid B14
  clear B14 Z14
  have c0_w0 := box_cell x_w0 0 _ rfl
  have c1_w0 := box_cell x_w0 1 _ rfl
  have c2_w0 := box_cell x_w0 2 _ rfl
  have c3_w0 := box_cell x_w0 3 _ rfl
  have l_w0 := lt_of_block x_w0
  have c0_g0 := box_cell x_g0 0 _ rfl
  have c1_g0 := box_cell x_g0 1 _ rfl
  have c2_g0 := box_cell x_g0 2 _ rfl
  have c3_g0 := box_cell x_g0 3 _ rfl
  have l_g0 := lt_of_block x_g0
  go_wp2_with fail
  clear c0_w0 c1_w0 c2_w0 c3_w0 l_w0
  clear c0_g0 c1_g0 c2_g0 c3_g0 l_g0
  refine (Himpl.out _ _ _ o_t4.read).mono ?_
  rintro e w16 ⟨X_h0, R_h0, C_h0, xc_h0, rc_h0, cc_h0, rfl, o_h0, b16⟩
  have B16 := B15.trans (b16.mono B15.size)
  have S16 := b16.size
  replace o_w0 := o_w0.below b16
  replace o_g0 := o_g0.below b16
  replace o_t4 := o_t4.below b16
  replace x_w0 := (b16.block _ (lt_of_block x_w0)).trans x_w0
  replace x_g0 := (b16.block _ (lt_of_block x_g0)).trans x_g0
  clear b16
  have Z15 := Lib.hid B15
  clear B15 Z15
  clear o_t4
  have c0_w0 := box_cell x_w0 0 _ rfl
  have c1_w0 := box_cell x_w0 1 _ rfl
  have c2_w0 := box_cell x_w0 2 _ rfl
  have c3_w0 := box_cell x_w0 3 _ rfl
  have l_w0 := lt_of_block x_w0
  have c0_g0 := box_cell x_g0 0 _ rfl
  have c1_g0 := box_cell x_g0 1 _ rfl
  have c2_g0 := box_cell x_g0 2 _ rfl
  have c3_g0 := box_cell x_g0 3 _ rfl
  have l_g0 := lt_of_block x_g0
  go_wp2_with fail
  clear c0_w0 c1_w0 c2_w0 c3_w0 l_w0
  clear c0_g0 c1_g0 c2_g0 c3_g0 l_g0
  have b17 : Below w16.heap.size w16 (w16.alloc (.cells #[.slice X_h0 N xc_h0, .slice R_h0 N rc_h0, .slice C_h0 M cc_h0, .int .i64 t] 26)) := below_new _ _
  have x_h0 : (w16.alloc (.cells #[.slice X_h0 N xc_h0, .slice R_h0 N rc_h0, .slice C_h0 M cc_h0, .int .i64 t] 26)).heap[w16.heap.size]? = some (.cells #[.slice X_h0 N xc_h0, .slice R_h0 N rc_h0, .slice C_h0 M cc_h0, .int .i64 t] 26 (0, 0)) := box_new _ _ _
  have q_h0 : w16.heap.size ≤ w16.heap.size := Nat.le_refl _
  generalize w16.alloc (.cells #[.slice X_h0 N xc_h0, .slice R_h0 N rc_h0, .slice C_h0 M cc_h0, .int .i64 t] 26) = w17 at b17 x_h0 ⊢
  have L_h0 := lt_of_block x_h0
  have B17 := B16.trans (b17.mono B16.size)
  have S17 := b17.size
  replace o_w0 := o_w0.below b17
  replace o_g0 := o_g0.below b17
  replace o_h0 := o_h0.below b17
  replace x_w0 := (b17.block _ (lt_of_block x_w0)).trans x_w0
  replace x_g0 := (b17.block _ (lt_of_block x_g0)).trans x_g0
  clear b17
  have Z16 := Lib.hid B16
  clear B16 Z16
  refine (eqRounding_law _ _ _ _ _ _ _ _ _ _ _ _ _ _ _ _ _ _ t _ o_h0.read o_w0.read hN hN hM HK.out).mono ?_
  rintro e w18 ⟨rfl, b18⟩
  have B18 := B17.trans (b18.mono B17.size)
  have S18 := b18.size
  replace o_w0 := o_w0.below b18
  replace o_g0 := o_g0.below b18
  replace o_h0 := o_h0.below b18
  replace x_w0 := (b18.block _ (lt_of_block x_w0)).trans x_w0
  replace x_g0 := (b18.block _ (lt_of_block x_g0)).trans x_g0
  replace x_h0 := (b18.block _ (lt_of_block x_h0)).trans x_h0
  clear b18
  have Z17 := Lib.hid B17
  clear B17 Z17
  have c0_w0 := box_cell x_w0 0 _ rfl
  have c1_w0 := box_cell x_w0 1 _ rfl
  have c2_w0 := box_cell x_w0 2 _ rfl
  have c3_w0 := box_cell x_w0 3 _ rfl
  have l_w0 := lt_of_block x_w0
  have c0_g0 := box_cell x_g0 0 _ rfl
  have c1_g0 := box_cell x_g0 1 _ rfl
  have c2_g0 := box_cell x_g0 2 _ rfl
  have c3_g0 := box_cell x_g0 3 _ rfl
  have l_g0 := lt_of_block x_g0
  have c0_h0 := box_cell x_h0 0 _ rfl
  have c1_h0 := box_cell x_h0 1 _ rfl
  have c2_h0 := box_cell x_h0 2 _ rfl
  have c3_h0 := box_cell x_h0 3 _ rfl
  have l_h0 := lt_of_block x_h0
  go_wp2_with fail
  clear c0_w0 c1_w0 c2_w0 c3_w0 l_w0
  clear c0_g0 c1_g0 c2_g0 c3_g0 l_g0
  clear c0_h0 c1_h0 c2_h0 c3_h0 l_h0
  refine (heldRounding_law _ _ _ _ _ _ _ _ _ _ t _ _ o_g0.read hN hN hM HK.out (by omega) (by omega)).mono ?_
  rintro e w19 ⟨rfl, b19⟩
  have B19 := B18.trans (b19.mono B18.size)
  have S19 := b19.size
  replace o_w0 := o_w0.below b19
  replace o_g0 := o_g0.below b19
  replace o_h0 := o_h0.below b19
  replace x_w0 := (b19.block _ (lt_of_block x_w0)).trans x_w0
  replace x_g0 := (b19.block _ (lt_of_block x_g0)).trans x_g0
  replace x_h0 := (b19.block _ (lt_of_block x_h0)).trans x_h0
  clear b19
  have Z18 := Lib.hid B18
  clear B18 Z18
  go_wp2
  go_ret
  exact ⟨rfl, B19⟩
end
end Go.Proofs.Ytcjmapdeopffcaa
