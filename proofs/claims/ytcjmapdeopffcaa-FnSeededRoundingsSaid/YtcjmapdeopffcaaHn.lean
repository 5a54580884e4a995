/- Roundings in the law's hands. -/
import Derived.Test.YtcjmapdeopffcaaPuX
import Derived.Test.YtcjmapdeopffcaaHb
namespace Go.Proofs.Ytcjmapdeopffcaa
open Go.RowKit Flo
set_option linter.unusedVariables false

/-- A rounding as a reader sees it. -/
structure RnR (w : World) (X R C : Option Addr) (nx nr nc : Nat) (L : Nat → List Int) (rs cs : List Int) : Prop where
  x : IntsS w X nx L
  r : Ints w R nr rs
  c : Ints w C nc cs
/-- A rounding in memory of the call's own, from lo on and below hi. -/
structure RnO (w : World) (lo hi : Nat) (X R C : Option Addr) (nx xc nr rc nc cc : Nat) (L : Nat → List Int) (rs cs : List Int) : Prop where
  ex : ∃ x0 x1 r0 r1 c0 c1, OwnII w x0 x1 X nx xc L ∧ OwnI w r0 r1 R nr rc rs ∧ OwnI w c0 c1 C nc cc cs ∧ lo ≤ x0 ∧ lo ≤ r0 ∧ lo ≤ c0 ∧ x1 ≤ hi ∧ r1 ≤ hi ∧ c1 ≤ hi ∧ (x1 ≤ r0 ∨ r1 ≤ x0) ∧ (x1 ≤ c0 ∨ c1 ≤ x0) ∧ (r1 ≤ c0 ∨ c1 ≤ r0)
section
variable {w w' : World} {lo hi lo' hi' nx xc nr rc nc cc n c : Nat} {A X R C : Option Addr} {L : Nat → List Int} {rs cs xs : List Int}
theorem RnR.below (h : RnR w X R C nx nr nc L rs cs) (hb : Below w.heap.size w w') : RnR w' X R C nx nr nc L rs cs := ⟨IntsS.below h.x hb, Ints.below h.r hb, Ints.below h.c hb⟩
theorem RnO.below (h : RnO w lo hi X R C nx xc nr rc nc cc L rs cs) (hb : Below w.heap.size w w') : RnO w' lo hi X R C nx xc nr rc nc cc L rs cs := by
  obtain ⟨x0, x1, r0, r1, c0, c1, a, r, c, hh⟩ := h.ex
  exact ⟨x0, x1, r0, r1, c0, c1, a.below hb, r.below hb, c.below hb, hh⟩
theorem RnO.chg (h : RnO w lo hi X R C nx xc nr rc nc cc L rs cs) (hc : Chg lo' hi' w w') (hd : hi ≤ lo' ∨ hi' ≤ lo) : RnO w' lo hi X R C nx xc nr rc nc cc L rs cs := by
  obtain ⟨x0, x1, r0, r1, c0, c1, a, r, c, h1, h2, h3, h4, h5, h6, hh⟩ := h.ex
  exact ⟨x0, x1, r0, r1, c0, c1, a.chg hc (by omega), r.chg hc (by omega), c.chg hc (by omega), h1, h2, h3, h4, h5, h6, hh⟩
theorem RnO.read (h : RnO w lo hi X R C nx xc nr rc nc cc L rs cs) : RnR w X R C nx nr nc L rs cs := by
  obtain ⟨x0, x1, r0, r1, c0, c1, a, r, c, hh⟩ := h.ex
  exact ⟨a.read, r.ints, c.ints⟩
theorem OwnI.cap (h : OwnI w lo hi A n c xs) : OwnI w lo (min hi w.heap.size) A n c xs :=
  ⟨h.own, fun k hk => by have h1 := h.top k hk; have h2 := (h.own.row_ge k hk).2; omega, h.small⟩
theorem OwnII.cap (h : OwnII w lo hi A n c L) : OwnII w lo (min hi w.heap.size) A n c L := by
  obtain ⟨ys, h1, h2⟩ := h.cells
  refine ⟨⟨ys, h1, ⟨fun j p q => ?_, h2.apart⟩⟩, fun g hg => ?_, h.small⟩
  · obtain ⟨V, c, e, ho⟩ := h2.row j p q
    exact ⟨V, c, e, ho.cap⟩
  · have a1 := h.top g hg
    have a2 := (World.ownsRow.lt h1 g (by simpa [ownBlock_row] using hg)).2
    omega
end
/-- What a function that rounds answers. -/
def oN (k : Nat) (o : Option (Nat → Nat → Int)) : Nat := match o with | none => 0 | some _ => k
def oL (m : Nat) (o : Option (Nat → Nat → Int)) : Nat → List Int := fun i => match o with | none => [] | some Y => lst m (Y i)
def oR (n m : Nat) (o : Option (Nat → Nat → Int)) : List Int := match o with | none => [] | some Y => lst n (rowS m Y)
def oC (n m : Nat) (o : Option (Nat → Nat → Int)) : List Int := match o with | none => [] | some Y => lst m (colS n Y)
def oT (n m : Nat) (o : Option (Nat → Nat → Int)) : Int := match o with | none => 0 | some Y => totS n m Y
def oK (o : Option (Nat → Nat → Int)) : Bool := match o with | none => false | some _ => true
def RetC (w : World) (n m : Nat) (L : Nat → List Int) (rs cs : List Int) (t : Int) (k : Bool) (e : Ending) (w' : World) : Prop :=
  ∃ (X R C : Option Addr) (xc rc cc : Nat), e = .returned (.tuple #[.agg #[.slice X n xc, .slice R n rc, .slice C m cc, .int .i64 t], .bool k]) ∧ RnO w' w.heap.size w'.heap.size X R C n xc n rc m cc L rs cs ∧ Below w.heap.size w w'
theorem OwnI.nil_ {w : World} {lo hi : Nat} : OwnI w lo hi none 0 0 [] := ⟨Own.nil_, (fun k hk => by cases hk), by omega⟩
theorem RnO.nil_ {w : World} {lo hi : Nat} {L : Nat → List Int} (h : lo ≤ hi) : RnO w lo hi none none none 0 0 0 0 0 0 L [] [] :=
  ⟨lo, lo, lo, lo, lo, lo, OwnII.nil_, OwnI.nil_, OwnI.nil_, by omega, by omega, by omega, by omega, by omega, by omega, by omega, by omega, by omega⟩
theorem RndP.rnO {w : World} {B n m xc rc cc : Nat} {X R C : Option Addr} {y : Nat → Nat → Int} (h : RndP w B X R C n m xc rc cc y) : RnO w B w.heap.size X R C n xc n rc m cc (fun i => lst m (y i)) (lst n (rowS m y)) (lst m (colS n y)) := by
  obtain ⟨x0, x1, r0, r1, c0, c1, a, r, c, h1, h2, h3, h4, h5, h6⟩ := h.ex
  exact ⟨x0, _, r0, _, c0, _, a.cap, r.cap, c.cap, h1, h2, h3, by omega, by omega, by omega, by omega, by omega, by omega⟩
theorem RndO.rnO {w : World} {B p0 p1 p2 p3 n m xc rc cc : Nat} {X R C : Option Addr} {y : Nat → Nat → Int} (h : RndO w p0 p1 p2 p3 X R C n m xc rc cc y) (hB : B ≤ p0) : RnO w B w.heap.size X R C n xc n rc m cc (fun i => lst m (y i)) (lst n (rowS m y)) (lst m (colS n y)) := by
  have l0 := h.l0
  have l1 := h.l1
  exact ⟨p0, _, p1, _, p2, _, h.a.cap, h.r.cap, h.c.cap, hB, by omega, by omega, by omega, by omega, by omega, by omega, by omega, by omega⟩
theorem retC_none {w w' : World} {n m : Nat} (hb : Below w.heap.size w w') : RetC w (oN n none) (oN m none) (oL m none) (oR n m none) (oC n m none) (oT n m none) (oK none) (.returned (.tuple #[.agg #[.slice none 0 0, .slice none 0 0, .slice none 0 0, .int .i64 0], .bool false])) w' :=
  ⟨none, none, none, 0, 0, 0, rfl, RnO.nil_ hb.size, hb⟩
theorem RetRndP.c {w w' : World} {n m : Nat} {o : Option (Nat → Nat → Int)} {e : Ending} (h : RetRndP w n m o e w') : RetC w (oN n o) (oN m o) (oL m o) (oR n m o) (oC n m o) (oT n m o) (oK o) e w' := by
  cases o with
  | none => rw [h.1 rfl]; exact retC_none h.2.2
  | some Y =>
    obtain ⟨X, R, C, xc, rc, cc, he, hp⟩ := h.2.1 Y rfl
    exact ⟨X, R, C, xc, rc, cc, he, hp.rnO, h.2.2⟩
theorem RetRnd.c {w w' : World} {n m : Nat} {o : Option (Nat → Nat → Int)} {e : Ending} (h : RetRnd w n m o e w') : RetC w (oN n o) (oN m o) (oL m o) (oR n m o) (oC n m o) (oT n m o) (oK o) e w' := by
  cases o with
  | none => rw [h.1 rfl]; exact retC_none h.2.2
  | some Y =>
    obtain ⟨p0, p1, p2, p3, X, R, C, xc, rc, cc, he, hp, h0⟩ := h.2.1 Y rfl
    exact ⟨X, R, C, xc, rc, cc, he, hp.rnO h0, h.2.2⟩
/-- Both sides answer alike. -/
theorem sr_both (n : Nat) (L : Nat → List Int) (b sd : Int) (hn : n ≤ 1099511627776) (hL : ∀ j, j < n → (L j).length ≤ 1099511627776) :
    ∃ (N M : Nat) (K : Nat → List Int) (rs cs : List Int) (t : Int) (ok : Bool), N ≤ 7 ∧ M ≤ 7 ∧ (∀ j, j < N → (K j).length ≤ 7) ∧
      (∀ (A : Option Addr) (c : Nat) (w : World), IntsS w A n L → Calls Try.prog 6 #[.slice A n c, .int .i64 b, .int .i64 sd] w (RetC w N M K rs cs t ok)) ∧
      (∀ (A : Option Addr) (c : Nat) (w : World), IntsS w A n L → Calls Try.prog 8 #[.slice A n c, .int .i64 b, .int .i64 sd] w (RetC w N M K rs cs t ok)) := by
  obtain ⟨o, ho⟩ : ∃ o, o = rndL n L b sd := ⟨_, rfl⟩
  have hb : o ≠ none → n ≤ 7 ∧ (L 0).length ≤ 7 := fun h => by
    by_cases hg : (inR b 2 100 && mxB n L) = true ∧ inR sd 0 4611686016279904236 = true
    · have h1 := hg.1
      rw [Bool.and_eq_true] at h1
      obtain ⟨_, h2, _, h3, _⟩ := mxB_of h1.2
      exact ⟨h2, h3⟩
    · rw [ho] at h
      unfold rndL at h
      rw [if_neg hg] at h
      exact absurd rfl h
  refine ⟨oN n o, oN (L 0).length o, oL (L 0).length o, oR n (L 0).length o, oC n (L 0).length o, oT n (L 0).length o, oK o, ?_, ?_, ?_, fun A c w hx => (specSR_any A n c b sd L w hx hn hL).mono fun e w' h => ?_, fun A c w hx => (implSR_any A n c b sd L w hx hn hL).mono fun e w' h => ?_⟩
  · cases o with
    | none => exact Nat.zero_le _
    | some Y => exact (hb (fun h => by cases h)).1
  · cases o with
    | none => exact Nat.zero_le _
    | some Y => exact (hb (fun h => by cases h)).2
  · cases o with
    | none => exact fun j hj => absurd hj (Nat.not_lt_zero _)
    | some Y => exact fun j _ => by show (lst _ _).length ≤ 7; rw [lst_len]; exact (hb (fun h => by cases h)).2
  · rw [ho]; exact h.c
  · rw [ho]; exact h.c

set_option maxRecDepth 100000 in
set_option maxHeartbeats 2000000 in
theorem eqRounding_law (X R C X' R' C' : Option Addr) (nx nr nc xc rc cc xc' rc' cc' : Nat) (L : Nat → List Int) (rs cs : List Int) (t : Int) (w : World) (hx : RnR w X R C nx nr nc L rs cs) (hy : RnR w X' R' C' nx nr nc L rs cs) (h1 : nx ≤ 7) (h2 : nr ≤ 7) (h3 : nc ≤ 7) (hL : ∀ j, j < nx → (L j).length ≤ 7) :
    Calls Try.prog 9 #[.agg #[.slice X nx xc, .slice R nr rc, .slice C nc cc, .int .i64 t], .agg #[.slice X' nx xc', .slice R' nr rc', .slice C' nc cc', .int .i64 t]] w fun e w' => e = .returned (.bool true) ∧ Below w.heap.size w w' := by
  obtain ⟨b0, x1, x2⟩ := box_two w #[.slice X nx xc, .slice R nr rc, .slice C nc cc, .int .i64 t] #[.slice X' nx xc', .slice R' nr rc', .slice C' nc cc', .int .i64 t] 26 26
  have HX := Lib.hid (hx.below b0)
  have HY := Lib.hid (hy.below b0)
  have HL : Hid (∀ j, j < nx → (L j).length ≤ 1099511627776) := Lib.hid (fun j hj => Nat.le_trans (hL j hj) (by omega))
  have B0 := Lib.hid b0
  clear hx hy hL
  go_enter Try.func9, Try.ntmps9
  have c0 := box_cell x1 0 _ rfl
  have d0 := box_cell x2 0 _ rfl
  have X1 := Lib.hid x1
  have X2 := Lib.hid x2
  clear b0 x1 x2
  go_wp2_with fail
  refine (eqIntSS_law _ _ nx _ _ L _ HX.out.x HY.out.x (by omega) HL.out).mono ?_
  rintro e w2 ⟨rfl, b2⟩
  have B2 := Lib.hid (B0.out.trans (b2.mono B0.out.size))
  have Y1 := Lib.hid (box_below X1.out b2)
  have Y2 := Lib.hid (box_below X2.out b2)
  have HX2 := Lib.hid (HX.out.below b2)
  have HY2 := Lib.hid (HY.out.below b2)
  have c1 := box_cell Y1.out 1 _ rfl
  have d1 := box_cell Y2.out 1 _ rfl
  clear c0 d0 b2
  go_wp2_with fail
  refine (eqIntS_law _ _ nr _ _ rs _ HX2.out.r HY2.out.r (by omega)).mono ?_
  rintro e w3 ⟨rfl, b3⟩
  have B3 := Lib.hid (B2.out.trans (b3.mono B2.out.size))
  have Z1 := Lib.hid (box_below Y1.out b3)
  have Z2 := Lib.hid (box_below Y2.out b3)
  have HX3 := Lib.hid (HX2.out.below b3)
  have HY3 := Lib.hid (HY2.out.below b3)
  have c2 := box_cell Z1.out 2 _ rfl
  have d2 := box_cell Z2.out 2 _ rfl
  clear c1 d1 b3
  go_wp2_with fail
  refine (eqIntS_law _ _ nc _ _ cs _ HX3.out.c HY3.out.c (by omega)).mono ?_
  rintro e w4 ⟨rfl, b4⟩
  have B4 := Lib.hid (B3.out.trans (b4.mono B3.out.size))
  have c3 := box_cell (box_below Z1.out b4) 3 _ rfl
  have d3 := box_cell (box_below Z2.out b4) 3 _ rfl
  clear c2 d2 b4
  go_wp2
  go_ret
  exact ⟨rfl, B4.out⟩

set_option maxRecDepth 100000 in
set_option maxHeartbeats 2000000 in
theorem markRounding_law (X R C : Option Addr) (lo hi nx nr nc xc rc cc : Nat) (k0 t : Int) (L : Nat → List Int) (rs cs : List Int) (w : World) (hx : RnO w lo hi X R C nx xc nr rc nc cc L rs cs) (hh : hi ≤ w.heap.size) (h1 : nx ≤ 7) (h2 : nr ≤ 7) (h3 : nc ≤ 7) (hL : ∀ j, j < nx → (L j).length ≤ 7) (k1 : 0 ≤ k0) (k2 : k0 ≤ 100) :
    Calls Try.prog 12 #[.agg #[.slice X nx xc, .slice R nr rc, .slice C nc cc, .int .i64 t], .int .i64 k0] w fun e w' => e = .returned (.int .i64 (k0 + sumLen L nx + nr + nc)) ∧ RnO w' lo hi X R C nx xc nr rc nc cc (markL k0 L) (marks (k0 + sumLen L nx) nr) (marks (k0 + sumLen L nx + nr) nc) ∧ Chg lo hi w w' := by
  have b0 := below_new w (.cells #[.slice X nx xc, .slice R nr rc, .slice C nc cc, .int .i64 t] 26)
  have x0 := box_new w #[.slice X nx xc, .slice R nr rc, .slice C nc cc, .int .i64 t] 26
  have hb := sumLen_le (fun j hj => Nat.le_trans (hL j hj) (show 7 ≤ 1048576 by omega)) nx (Nat.le_refl _)
  have HL : Hid (∀ j, j < nx → (L j).length ≤ 1048576) := Lib.hid (fun j hj => Nat.le_trans (hL j hj) (by omega))
  obtain ⟨p0, p1, r0, r1, q0, q1, a, r, c, g1, g2, g3, g4, g5, g6, g7, g8, g9⟩ := hx.ex
  have HA := Lib.hid (a.below b0)
  have HR := Lib.hid (r.below b0)
  have HC := Lib.hid (c.below b0)
  have B0 := Lib.hid b0
  have X0 := Lib.hid x0
  obtain ⟨s, hs⟩ : ∃ s, s = sumLen L nx := ⟨_, rfl⟩
  rw [← hs] at hb ⊢
  have HS := Lib.hid hs
  clear hx hL a r c b0 hs
  go_enter Try.func12, Try.ntmps12
  have c0 := box_cell x0 0 _ rfl
  clear x0
  go_wp2_with fail
  refine (markIntSS_law _ p0 p1 nx _ k0 L _ HA.out (by omega) HL.out k1 (by omega)).mono ?_
  rintro e w2 ⟨rfl, a2, b2⟩
  rw [← HS.out]
  have B2 := Lib.hid ((Chg.of_below B0.out (lo := lo) (hi := hi)).trans (b2.mono g1 g4))
  have HA2 := Lib.hid a2
  have HR2 := Lib.hid (HR.out.chg b2 (by omega))
  have HC2 := Lib.hid (HC.out.chg b2 (by omega))
  have X2 := Lib.hid ((b2.block _ (lt_of_block X0.out) (.inr (by omega))).trans X0.out)
  clear a2 b2 c0
  have c1 := box_cell X2.out 1 _ rfl
  go_wp2_with fail
  refine (markIntS_law _ r0 r1 nr _ (k0 + s) rs _ HR2.out (by omega) (by omega)).mono ?_
  rintro e w3 ⟨rfl, a3, b3⟩
  have B3 := Lib.hid (B2.out.trans (b3.mono g2 g5))
  have HA3 := Lib.hid (HA2.out.chg b3 (by omega))
  have HR3 := Lib.hid a3
  have HC3 := Lib.hid (HC2.out.chg b3 (by omega))
  have X3 := Lib.hid ((b3.block _ (lt_of_block X2.out) (.inr (by omega))).trans X2.out)
  clear a3 b3 c1
  have c2 := box_cell X3.out 2 _ rfl
  go_wp2_with fail
  refine (markIntS_law _ q0 q1 nc _ (k0 + s + nr) cs _ HC3.out (by omega) (by omega)).mono ?_
  rintro e w4 ⟨rfl, a4, b4⟩
  have B4 := Lib.hid (B3.out.trans (b4.mono g3 g6))
  have HA4 := Lib.hid (HA3.out.chg b4 (by omega))
  have HR4 := Lib.hid (HR3.out.chg b4 (by omega))
  have HF : Hid (RnO w4 lo hi X R C nx xc nr rc nc cc (markL k0 L) (marks (k0 + s) nr) (marks (k0 + s + nr) nc)) := Lib.hid ⟨p0, p1, r0, r1, q0, q1, HA4.out, HR4.out, a4, g1, g2, g3, g4, g5, g6, g7, g8, g9⟩
  clear a4 b4 c2
  go_wp2
  go_ret
  exact ⟨rfl, HF.out, B4.out⟩

set_option maxRecDepth 100000 in
set_option maxHeartbeats 2000000 in
theorem heldRounding_law (X R C : Option Addr) (nx nr nc xc rc cc : Nat) (k0 t : Int) (L : Nat → List Int) (w : World) (hx : RnR w X R C nx nr nc (markL k0 L) (marks (k0 + sumLen L nx) nr) (marks (k0 + sumLen L nx + nr) nc)) (h1 : nx ≤ 7) (h2 : nr ≤ 7) (h3 : nc ≤ 7) (hL : ∀ j, j < nx → (L j).length ≤ 7) (k1 : 0 ≤ k0) (k2 : k0 ≤ 100) :
    Calls Try.prog 13 #[.agg #[.slice X nx xc, .slice R nr rc, .slice C nc cc, .int .i64 t], .int .i64 k0] w fun e w' => e = .returned (.int .i64 (k0 + sumLen L nx + nr + nc)) ∧ Below w.heap.size w w' := by
  have b0 := below_new w (.cells #[.slice X nx xc, .slice R nr rc, .slice C nc cc, .int .i64 t] 26)
  have x0 := box_new w #[.slice X nx xc, .slice R nr rc, .slice C nc cc, .int .i64 t] 26
  have hb := sumLen_le (fun j hj => Nat.le_trans (hL j hj) (show 7 ≤ 1048576 by omega)) nx (Nat.le_refl _)
  have HL : Hid (∀ j, j < nx → (L j).length ≤ 1048576) := Lib.hid (fun j hj => Nat.le_trans (hL j hj) (by omega))
  have HX := Lib.hid (hx.below b0)
  have B0 := Lib.hid b0
  have X0 := Lib.hid x0
  obtain ⟨s, hs⟩ : ∃ s, s = sumLen L nx := ⟨_, rfl⟩
  rw [← hs] at hb HX ⊢
  have HS := Lib.hid hs
  clear hx hL b0 hs
  go_enter Try.func13, Try.ntmps13
  have c0 := box_cell x0 0 _ rfl
  clear x0
  go_wp2_with fail
  refine (heldIntSS_law _ nx _ k0 L _ HX.out.x (by omega) HL.out k1 (by omega)).mono ?_
  rintro e w2 ⟨rfl, b2⟩
  rw [← HS.out]
  have B2 := Lib.hid (B0.out.trans (b2.mono B0.out.size))
  have HX2 := Lib.hid (HX.out.below b2)
  have X2 := Lib.hid (box_below X0.out b2)
  clear b2 c0
  have c1 := box_cell X2.out 1 _ rfl
  go_wp2_with fail
  refine (heldIntS_law _ nr _ (k0 + s) _ HX2.out.r (by omega) (by omega) (by omega)).mono ?_
  rintro e w3 ⟨rfl, b3⟩
  have B3 := Lib.hid (B2.out.trans (b3.mono B2.out.size))
  have HX3 := Lib.hid (HX2.out.below b3)
  have X3 := Lib.hid (box_below X2.out b3)
  clear b3 c1
  have c2 := box_cell X3.out 2 _ rfl
  go_wp2_with fail
  refine (heldIntS_law _ nc _ (k0 + s + nr) _ HX3.out.c (by omega) (by omega) (by omega)).mono ?_
  rintro e w4 ⟨rfl, b4⟩
  have B4 := Lib.hid (B3.out.trans (b4.mono B3.out.size))
  clear b4 c2
  go_wp2
  go_ret
  exact ⟨rfl, B4.out⟩
end Go.Proofs.Ytcjmapdeopffcaa
