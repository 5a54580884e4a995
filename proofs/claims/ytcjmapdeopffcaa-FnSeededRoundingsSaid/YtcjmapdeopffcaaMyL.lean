/- The seeded rounding: the reference. -/
import Derived.Test.YtcjmapdeopffcaaMyK
import Derived.Test.YtcjmapdeopffcaaRnd
namespace Go.Proofs.Ytcjmapdeopffcaa
open Go.RowKit Flo
set_option linter.unusedVariables false

/-- What a function that rounds hands back. -/
def RetRnd (w : World) (n m : Nat) (o : Option (Nat → Nat → Int)) (e : Ending) (w' : World) : Prop :=
  (o = none → e = .returned (.tuple #[.agg #[.slice none 0 0, .slice none 0 0, .slice none 0 0, .int .i64 0], .bool false])) ∧
  (∀ Y, o = some Y → ∃ (p0 p1 p2 p3 : Nat) (X R C : Option Addr) (xc rc cc : Nat), e = .returned (.tuple #[.agg #[.slice X n xc, .slice R n rc, .slice C m cc, .int .i64 (totS n m Y)], .bool true]) ∧ RndO w' p0 p1 p2 p3 X R C n m xc rc cc Y ∧ w.heap.size ≤ p0) ∧ Below w.heap.size w w'
theorem RetRnd.no {w w' : World} {n m : Nat} {o : Option (Nat → Nat → Int)} (h : o = none) (hb : Below w.heap.size w w') : RetRnd w n m o (.returned (.tuple #[.agg #[.slice none 0 0, .slice none 0 0, .slice none 0 0, .int .i64 0], .bool false])) w' :=
  ⟨fun _ => rfl, fun Y h2 => (by rw [h] at h2; cases h2), hb⟩
theorem rowS_fn {m i : Nat} {x y : Nat → Nat → Int} (h : ∀ j, j < m → x i j = y i j) : rowS m x i = rowS m y i := sm_congr h
theorem colS_fn {n j : Nat} {x y : Nat → Nat → Int} (h : ∀ i, i < n → x i j = y i j) : colS n x j = colS n y j := sm_congr h
theorem totS_fn {n m : Nat} {x y : Nat → Nat → Int} (h : ∀ i j, i < n → j < m → x i j = y i j) : totS n m x = totS n m y := sm_congr fun i hi => rowS_fn fun j hj => h i j hi hj
theorem RndO.fn {w : World} {p0 p1 p2 p3 n m ca rc cc : Nat} {A R C : Option Addr} {x y : Nat → Nat → Int} (h : RndO w p0 p1 p2 p3 A R C n m ca rc cc x) (he : ∀ i j, i < n → j < m → y i j = x i j) : RndO w p0 p1 p2 p3 A R C n m ca rc cc y :=
  ⟨mat_fn h.a he, vec_fn h.r fun i hi => rowS_fn fun j hj => he i j hi hj, vec_fn h.c fun j hj => colS_fn fun i hi => he i j hi hj, h.l0, h.l1, h.l2⟩
theorem RndO.chg {w w' : World} {p0 p1 p2 p3 n m ca rc cc g : Nat} {A R C : Option Addr} {x : Nat → Nat → Int} (h : RndO w p0 p1 p2 p3 A R C n m ca rc cc x) (hc : Chg g (g + 1) w w') (hg : g < p0) : RndO w' p0 p1 p2 p3 A R C n m ca rc cc x := by
  have l0 := h.l0
  have l1 := h.l1
  exact ⟨h.a.chg hc (.inr (by omega)), h.r.chg hc (.inr (by omega)), h.c.chg hc (.inr (by omega)), h.l0, h.l1, h.l2⟩
theorem RetRnd.yes {w w' : World} {n m p0 p1 p2 p3 xc rc cc : Nat} {X R C : Option Addr} {Y : Nat → Nat → Int} {o : Option (Nat → Nat → Int)} {tt : Int} (h : o = some Y) (ht : tt = totS n m Y) (ho : RndO w' p0 p1 p2 p3 X R C n m xc rc cc Y) (hp : w.heap.size ≤ p0) (hb : Below w.heap.size w w') :
    RetRnd w n m o (.returned (.tuple #[.agg #[.slice X n xc, .slice R n rc, .slice C m cc, .int .i64 tt], .bool true])) w' :=
  ⟨fun h2 => (by rw [h] at h2; cases h2), fun Y2 h2 => (by rw [h] at h2; obtain rfl := Option.some.inj h2; subst ht; exact ⟨p0, p1, p2, p3, X, R, C, xc, rc, cc, rfl, ho, hp⟩), hb⟩
theorem box4 {w : World} {g : Nat} {p q r s a b c d : Value} {T : TypeId} (h : w.heap[g]? = some (.cells #[p, q, r, s] T (0, 0))) :
    ((((w.setCell ⟨g, 0, none⟩ a).setCell ⟨g, 1, none⟩ b).setCell ⟨g, 2, none⟩ c).setCell ⟨g, 3, none⟩ d).heap[g]? = some (.cells #[a, b, c, d] T (0, 0)) := box_set (box_set (box_set (box_set h 0 a) 1 b) 2 c) 3 d
theorem chg4 {w : World} {g : Nat} {a b c d : Value} : Chg g (g + 1) w ((((w.setCell ⟨g, 0, none⟩ a).setCell ⟨g, 1, none⟩ b).setCell ⟨g, 2, none⟩ c).setCell ⟨g, 3, none⟩ d) := ((((Chg.refl _ _ w).set (Nat.le_refl _) (by omega)).set (Nat.le_refl _) (by omega)).set (Nat.le_refl _) (by omega)).set (Nat.le_refl _) (by omega)
/-- Nothing but two blocks turns. -/
def KeepBut (g h : Nat) (w w' : World) : Prop := w.heap.size ≤ w'.heap.size ∧ ∀ k, k < w.heap.size → k ≠ g → k ≠ h → w'.heap[k]? = w.heap[k]?
theorem KeepBut.trans {g h : Nat} {a b c : World} (h1 : KeepBut g h a b) (h2 : KeepBut g h b c) : KeepBut g h a c := ⟨Nat.le_trans h1.1 h2.1, fun k hk h3 h4 => (h2.2 k (Nat.lt_of_lt_of_le hk h1.1) h3 h4).trans (h1.2 k hk h3 h4)⟩
theorem KeepBut.below {g h : Nat} {a b : World} (h1 : Below a.heap.size a b) : KeepBut g h a b := ⟨h1.size, fun k hk _ _ => h1.block k hk⟩
theorem KeepBut.chg1 {g h : Nat} {a b : World} (h1 : Chg g (g + 1) a b) : KeepBut g h a b := ⟨h1.size, fun k hk h3 _ => h1.block k hk (by omega)⟩
theorem KeepBut.chg2 {g h : Nat} {a b : World} (h1 : Chg h (h + 1) a b) : KeepBut g h a b := ⟨h1.size, fun k hk _ h3 => h1.block k hk (by omega)⟩
/-- A network that is read, however two blocks turn. -/
def NetK2 (w : World) (g h : Nat) (R C L H : Option Addr) (t : Net) : Prop := ∀ w', KeepBut g h w w' → NetR w' R C L H t
section
variable {w w' : World} {g h : Nat} {R C L H : Option Addr} {t : Net}
theorem NetK2.now (k : NetK2 w g h R C L H t) : NetR w R C L H t := k w ⟨Nat.le_refl _, fun _ _ _ _ => rfl⟩
theorem NetK2.on (k : NetK2 w g h R C L H t) (hc : KeepBut g h w w') : NetK2 w' g h R C L H t := fun w2 h2 => k w2 (hc.trans h2)
theorem NetK2.with_ {w5 : World} {i j p q p2 q2 lc' hc' : Nat} {a b : Int} {L' H' : Option Addr} (k : NetK2 w g h R C L H t) (hg : g < w.heap.size) (hh : h < w.heap.size) (hb : Below w.heap.size w w5) (hp : w.heap.size ≤ p) (hp2 : w.heap.size ≤ p2)
    (h1 : Mat w5 p q L' t.n lc' t.m (t.bound i j a b).lo) (h2 : Mat w5 p2 q2 H' t.n hc' t.m (t.bound i j a b).hi) : NetK2 w5 g h R C L' H' (t.bound i j a b) := fun w' hc => by
  have h3 := k w' ((KeepBut.below hb).trans hc)
  exact ⟨h3.r, h3.c, (h1.keep fun z hz1 hz2 hz3 => hc.2 z hz3 (by omega) (by omega)).read, (h2.keep fun z hz1 hz2 hz3 => hc.2 z hz3 (by omega) (by omega)).read⟩
theorem NetM.readKept {wc : World} {T6 B kd cD kc cC ka cA ke cE : Nat} {f : Nat → Option Rw} {D C A E : Option Addr} (h : NetM wc w T6 B f D C A E kd cD kc cC ka cA ke cE t) (h1 : kd = t.n) (h2 : kc = t.m) (h3 : ka = t.n) (h4 : ke = t.n) (hk : ∀ k, B ≤ k → k < w.heap.size → w'.heap[k]? = w.heap[k]?) (hs : w.heap.size ≤ w'.heap.size) : NetR w' D C A E t := by
  have hN : NetM w' w' T6 B f D C A E kd cD kc cC ka cA ke cE t := ⟨h.fam.keep fun i r hi => hk _ (h.fam.lt hi).1 (h.fam.lt hi).2, h.d, h.c, h.a.keep fun g hg hz => hk g (h.a.ge g hg).1 hz, h.e.keep fun g hg hz => hk g (h.e.ge g hg).1 hz, h.ne, Below.refl _ _, Nat.le_trans h.sz hs, h.tb⟩
  exact hN.read h1 h2 h3 h4
end
theorem Inv.row {t : Net} {o : Option (Net × Int)} {s : Net} {ap : Int} {al : Bool} {k m : Nat} (h : Inv t o s ap al k m m) (hm : 0 < m) : Inv t o s ap al (k + 1) 0 m := by
  rcases h with ⟨h1, h2, h3⟩ | h
  · exact .inl ⟨h1, h2, h3.row hm⟩
  · exact .inr h
theorem Inv.start {t : Net} {m : Nat} (h : NetB t) : Inv t (some (t, 0)) t 0 true 0 0 m := .inl ⟨rfl, rfl, SubN.refl h, fun h => by omega, fun i j h => by omega, Int.le_refl _, by show (0 : Int) ≤ 1000000; omega⟩


set_option maxRecDepth 100000 in
set_option maxHeartbeats 8000000 in
theorem specSR_any (A : Option Addr) (n c : Nat) (b sd : Int) (L : Nat → List Int) (w : World) (hx : IntsS w A n L) (hn : n ≤ 1099511627776) (hL : ∀ j, j < n → (L j).length ≤ 1099511627776) :
    Calls Try.prog 6 #[.slice A n c, .int .i64 b, .int .i64 sd] w (RetRnd w n (L 0).length (rndL n L b sd)) := by
  obtain ⟨T0, hT0⟩ : ∃ T0, w.heap.size = T0 := ⟨_, rfl⟩
  have HT0 := Lib.hid hT0
  have b0 := below_new w (.cells #[.slice none 0 0, .slice none 0 0, .slice none 0 0, .int .i64 0] 26)
  have x0 := box_new w #[.slice none 0 0, .slice none 0 0, .slice none 0 0, .int .i64 0] 26
  have hz1 : (w.alloc (.cells #[.slice none 0 0, .slice none 0 0, .slice none 0 0, .int .i64 0] 26)).heap.size = T0 + 1 := by rw [← HT0.out]; simp
  have HX1 := Lib.hid (IntsS.below hx b0)
  rw [hT0] at x0
  have B0 := Lib.hid b0
  have X0 := Lib.hid x0
  have HZ1 := Lib.hid hz1
  have HL := Lib.hid hL
  obtain ⟨O, hO⟩ : ∃ O, rndL n L b sd = O := ⟨_, rfl⟩
  rw [hO]
  have HO := Lib.hid hO
  clear hx hL b0 x0 hz1 hO
  go_enter Try.func6, Try.ntmps6
  go_wp2_with fail
  generalize w.alloc (.cells #[.slice none 0 0, .slice none 0 0, .slice none 0 0, .int .i64 0] 26) = w1 at *
  refine (oGood_any A n c b L _ HX1.out hn HL.out).mono ?_
  rintro e w' ⟨rfl, rfl⟩
  have z0 := box_cell X0.out 0 (.slice none 0 0) rfl
  have z1 := box_cell X0.out 1 (.slice none 0 0) rfl
  have z2 := box_cell X0.out 2 (.slice none 0 0) rfl
  have z3 := box_cell X0.out 3 (.int .i64 0) rfl
  have y0 := box_free X0.out 0
  have y1 := box_free X0.out 1
  have y2 := box_free X0.out 2
  have y3 := box_free X0.out 3
  cases hg : (inR b 2 100 && mxB n L)
  case false =>
    have HN : Hid (O = none) := Lib.hid (by rw [← HO.out]; unfold rndL; rw [if_neg (fun h => by rw [hg] at h; cases h.1)])
    clear hg
    have hx4 := box4 (a := .slice none 0 0) (b := .slice none 0 0) (c := .slice none 0 0) (d := .int .i64 0) X0.out
    have v0 := box_cell hx4 0 (.slice none 0 0) rfl
    have v1 := box_cell hx4 1 (.slice none 0 0) rfl
    have v2 := box_cell hx4 2 (.slice none 0 0) rfl
    have v3 := box_cell hx4 3 (.int .i64 0) rfl
    have HBF := Lib.hid ((chg4 (g := T0) (a := .slice none 0 0) (b := .slice none 0 0) (c := .slice none 0 0) (d := .int .i64 0)).below B0.out (by rw [HT0.out]; exact Nat.le_refl _) B0.out.size)
    clear hx4
    go_wp2
    refine bodyPost_ret (v := .tuple #[.agg #[.slice none 0 0, .slice none 0 0, .slice none 0 0, .int .i64 0], .bool false]) (by simp [results, Try.results6, go_sem, v0, v1, v2, v3]) rfl (RetRnd.no HN.out HBF.out)
  case true =>
    have hMx : mxB n L = true := by
      rw [Bool.and_eq_true] at hg; exact hg.2
    have hBx : inR b 2 100 = true := by
      rw [Bool.and_eq_true] at hg; exact hg.1
    have HG := Lib.hid hg
    obtain ⟨hn1, hn7, hm1, hm7, hsh, hxb⟩ := mxB_of hMx
    have hbb := inR_of hBx
    have HSH := Lib.hid hsh
    have hM : MxB n (L 0).length b (fun i j => (L i)[j]?.getD 0) := ⟨hn1, hn7, hm1, hm7, hbb.1, hbb.2, hxb⟩
    have HM := Lib.hid hM
    obtain ⟨hb2, hb100⟩ := hbb
    clear hg hMx hBx hsh hxb hM
    have hi1 := ints_one (w := w1) (g := w1.heap.size) (v := sd) rfl
    have HI1 := Lib.hid hi1
    have bI := below_new w1 (.cells #[.int .i64 sd] 3)
    have BI := Lib.hid bI
    clear hi1 bI
    go_wp2_with fail
    generalize w1.alloc (.cells #[.int .i64 sd] 3) = w2 at *
    refine (hDigest_any _ 1 1 [sd] _ HI1.out (by omega)).mono ?_
    rintro e w' ⟨rfl, rfl⟩
    have HA1 : Hid (allR [sd] 0 4611686016279904236 = inR sd 0 4611686016279904236) := Lib.hid (by simp [allR])
    rw [HA1.out]
    have HX2 := Lib.hid (box_below X0.out BI.out)
    have HB2 := Lib.hid (B0.out.trans (BI.out.mono B0.out.size))
    clear z0 z1 z2 z3 y0 y1 y2 y3
    cases hs : inR sd 0 4611686016279904236
    case false =>
      have HN : Hid (O = none) := Lib.hid (by rw [← HO.out]; unfold rndL; rw [if_neg (fun h => by rw [hs] at h; cases h.2)])
      have z0 := box_cell HX2.out 0 (.slice none 0 0) rfl
      have z1 := box_cell HX2.out 1 (.slice none 0 0) rfl
      have z2 := box_cell HX2.out 2 (.slice none 0 0) rfl
      have z3 := box_cell HX2.out 3 (.int .i64 0) rfl
      have y0 := box_free HX2.out 0
      have y1 := box_free HX2.out 1
      have y2 := box_free HX2.out 2
      have y3 := box_free HX2.out 3
      clear hs
      have hx4 := box4 (a := .slice none 0 0) (b := .slice none 0 0) (c := .slice none 0 0) (d := .int .i64 0) HX2.out
      have v0 := box_cell hx4 0 (.slice none 0 0) rfl
      have v1 := box_cell hx4 1 (.slice none 0 0) rfl
      have v2 := box_cell hx4 2 (.slice none 0 0) rfl
      have v3 := box_cell hx4 3 (.int .i64 0) rfl
      have HBF := Lib.hid ((chg4 (g := T0) (a := .slice none 0 0) (b := .slice none 0 0) (c := .slice none 0 0) (d := .int .i64 0)).below HB2.out (by rw [HT0.out]; exact Nat.le_refl _) HB2.out.size)
      clear hx4
      go_wp2
      refine bodyPost_ret (v := .tuple #[.agg #[.slice none 0 0, .slice none 0 0, .slice none 0 0, .int .i64 0], .bool false]) (by simp [results, Try.results6, go_sem, v0, v1, v2, v3]) rfl (RetRnd.no HN.out HBF.out)
    case true =>
      obtain ⟨x, hxe⟩ : ∃ x : Nat → Nat → Int, x = fun i j => (L i)[j]?.getD 0 := ⟨_, rfl⟩
      obtain ⟨m, hme⟩ : ∃ m, m = (L 0).length := ⟨_, rfl⟩
      have HRo : Hid (rndO n m b sd x = O) := Lib.hid (by rw [← HO.out, hxe, hme]; unfold rndL; rw [if_pos ⟨HG.out, hs⟩])
      have hM2 := HM.out
      rw [← hxe, ← hme] at hM2
      have hmr : MatR w2 A n m x := by
        rw [hxe]
        exact matR_of (IntsS.below HX1.out BI.out) (fun i hi => by rw [hme]; exact HSH.out i hi)
      have HM2 := Lib.hid hM2
      have HMR := Lib.hid hmr
      have hn1 := hM2.n1
      have hn7 := hM2.n7
      have hm1 := hM2.m1
      have hm7 := hM2.m7
      rw [← hme]
      have HME := Lib.hid hme
      clear hs HM HSH HG hxe hme hM2 hmr HX1 HL
      go_wp2_with fail
      refine (kOpen_any sd 0 _).mono ?_
      rintro e w3 ⟨g1, rfl, hr3, hg3, b3⟩
      have HR3 := Lib.hid hr3
      have HX3 := Lib.hid (box_below HX2.out b3)
      have HB3 := Lib.hid (HB2.out.trans (b3.mono HB2.out.size))
      have HMR3 := Lib.hid (IntsS.below HMR.out b3)
      have hsz3 := hr3.lt
      have HB23 := Lib.hid b3
      clear hr3 b3
      go_wp2_with fail
      refine (oNetwork_any n m b A c x _ HMR3.out HM2.out).mono ?_
      rintro e w4 ⟨R, C, Lo, Hi, rc, cc, lc, hc, B, wq, T6, f, rfl, hB4, n4, b4⟩
      obtain ⟨T9, hT9⟩ : ∃ T9, w4.heap.size = T9 := ⟨_, rfl⟩
      have HT9 := Lib.hid hT9
      have b9 := below_new w4 (.cells #[.slice R (n + 1) rc, .slice C (m + 1) cc, .slice Lo (n + 1) lc, .slice Hi (n + 1) hc] 54)
      have x9 := box_new w4 #[.slice R (n + 1) rc, .slice C (m + 1) cc, .slice Lo (n + 1) lc, .slice Hi (n + 1) hc] 54
      have s9 : (w4.alloc (.cells #[.slice R (n + 1) rc, .slice C (m + 1) cc, .slice Lo (n + 1) lc, .slice Hi (n + 1) hc] 54)).heap.size = T9 + 1 := by rw [← HT9.out]; simp
      have hg1B : g1 < B := Nat.lt_of_lt_of_le hsz3 hB4
      have hgT : g1 < T9 := by have := n4.sz; omega
      have hk9 : NetK2 (w4.alloc (.cells #[.slice R (n + 1) rc, .slice C (m + 1) cc, .slice Lo (n + 1) lc, .slice Hi (n + 1) hc] 54)) T9 g1 R C Lo Hi (netOf n m b x) := fun w' hc => n4.readKept rfl rfl rfl rfl (fun z hz1 hz2 => (hc.2 z (by omega) (by omega) (by omega)).trans (b9.block z hz2)) (by have := hc.1; omega)
      rw [hT9] at x9
      have HX9 := Lib.hid x9
      have HK9 := Lib.hid hk9
      have HR9 := Lib.hid ((HR3.out.below b4).below b9)
      have HB29 := Lib.hid (HB23.out.trans ((b4.mono HB23.out.size).trans (b9.mono (Nat.le_trans HB23.out.size b4.size))))
      have HS9 : Hid (T9 < (w4.alloc (.cells #[.slice R (n + 1) rc, .slice C (m + 1) cc, .slice Lo (n + 1) lc, .slice Hi (n + 1) hc] 54)).heap.size) := Lib.hid (by omega)
      have hw2g : w2.heap.size ≤ g1 := hg3
      have HInv := Lib.hid (Inv.start (m := m) HM2.out.netB)
      have HSub := Lib.hid (SubN.refl HM2.out.netB)
      clear b9 x9 s9 hk9 n4 b4 hB4 hg1B hsz3
      obtain ⟨t0, ht0⟩ : ∃ t0, t0 = netOf n m b x := ⟨_, rfl⟩
      have HT0N := Lib.hid ht0
      have TNN : Hid (t0.n = n + 1) := Lib.hid (by rw [ht0]; rfl)
      have TMM : Hid (t0.m = m + 1) := Lib.hid (by rw [ht0]; rfl)
      rw [← ht0] at HK9 HInv HSub
      clear ht0
      go_wp2_with fail
      clear hT9
      generalize w4.alloc (.cells #[.slice R (n + 1) rc, .slice C (m + 1) cc, .slice Lo (n + 1) lc, .slice Hi (n + 1) hc] 54) = w9 at *
      go_loopw [38] (fun iv wr => ∃ (k : Nat) (s : Net) (ap : Int) (al : Bool) (L' H' : Option Addr) (lc' hc' : Nat), k ≤ n ∧ iv = .int .i64 k ∧ Hid (Inv t0 (rndRows b sd m x t0 k) s ap al k 0 m) ∧ Hid (SubN s t0) ∧ Hid (RdrAt wr g1 sd ap al) ∧ 0 ≤ ap ∧ ap ≤ 1000000 ∧ Hid (wr.heap[T9]? = some (.cells #[.slice R (n + 1) rc, .slice C (m + 1) cc, .slice L' (n + 1) lc', .slice H' (n + 1) hc'] 54 (0, 0))) ∧ Hid (NetK2 wr T9 g1 R C L' H' s) ∧ Hid (Below w2.heap.size w2 wr) ∧ Hid (T9 < wr.heap.size)) (fun iv _ => n - (intOf iv).toNat)
      case atStart => exact ⟨0, t0, 0, true, Lo, Hi, lc, hc, Nat.zero_le _, rfl, HInv, HSub, HR9, Int.le_refl _, by omega, HX9, HK9, HB29, HS9⟩
      case round =>
        clear HInv HSub HR9 HX9 HK9 HB29 HS9
        obtain ⟨k, s, ap, al, L', H', lc', hc', hk, rfl, HInv, HSub, HR, hap0, hap1, HX, HK, HB, HS⟩ := hrel
        by_cases hlt : k < n
        case neg =>
          obtain rfl : k = n := by omega
          have hs1 : s.n = k + 1 := HSub.out.n.trans TNN.out
          have hs2 : s.m = m + 1 := HSub.out.m.trans TMM.out
          have d0 := box_cell HX.out 0 (.slice R (k + 1) rc) rfl
          have d1 := box_cell HX.out 1 (.slice C (m + 1) cc) rfl
          have d2 := box_cell HX.out 2 (.slice L' (k + 1) lc') rfl
          have d3 := box_cell HX.out 3 (.slice H' (k + 1) hc') rfl
          go_wp2_with fail
          refine (tFirst_any (k + 1) (m + 1) R C L' H' rc cc lc' hc' s _ hs1 hs2 HK.out.now HSub.out.b).mono ?_
          rintro e w6 ⟨X, xn, xc, r, rfl, hr1, hr2, b6⟩
          have HBW := Lib.hid (HB2.out.trans ((HB.out.trans (b6.mono HB.out.size)).mono HB2.out.size))
          have HX0 := Lib.hid ((HB.out.trans (b6.mono HB.out.size)).block T0 (lt_of_block HX2.out) |>.trans HX2.out)
          have hr6 := HR.out.below b6
          have rok := box_cell hr6 2 (.bool al) rfl
          have z0 := box_cell HX0.out 0 (.slice none 0 0) rfl
          have z1 := box_cell HX0.out 1 (.slice none 0 0) rfl
          have z2 := box_cell HX0.out 2 (.slice none 0 0) rfl
          have z3 := box_cell HX0.out 3 (.int .i64 0) rfl
          have y0 := box_free HX0.out 0
          have y1 := box_free HX0.out 1
          have y2 := box_free HX0.out 2
          have y3 := box_free HX0.out 3
          have R1 := Lib.hid hr1
          have R2 := Lib.hid hr2
          clear d0 d1 d2 d3 b6 hr6 hr1 hr2
          cases r
          case false =>
            have HN : Hid (O = none) := Lib.hid (by
              rw [← HRo.out]; unfold rndO; rw [← HT0N.out]
              rcases HInv.out with ⟨h1, _, h3⟩ | ⟨h1, _⟩
              · have := R1.out.2 (h3.feas (.inl (by omega))); cases this
              · rw [h1]; rfl)
            clear R1 R2 rok
            have hx4 := box4 (a := .slice none 0 0) (b := .slice none 0 0) (c := .slice none 0 0) (d := .int .i64 0) HX0.out
            have v0 := box_cell hx4 0 (.slice none 0 0) rfl
            have v1 := box_cell hx4 1 (.slice none 0 0) rfl
            have v2 := box_cell hx4 2 (.slice none 0 0) rfl
            have v3 := box_cell hx4 3 (.int .i64 0) rfl
            have HBF := Lib.hid ((chg4 (g := T0) (a := .slice none 0 0) (b := .slice none 0 0) (c := .slice none 0 0) (d := .int .i64 0)).below HBW.out (by rw [HT0.out]; exact Nat.le_refl _) HBW.out.size)
            clear hx4
            go_wp2
            refine bodyPost_ret (v := .tuple #[.agg #[.slice none 0 0, .slice none 0 0, .slice none 0 0, .int .i64 0], .bool false]) (by simp [results, Try.results6, go_sem, v0, v1, v2, v3]) rfl (RetRnd.no HN.out HBF.out)
          case true =>
            cases al
            case false =>
              have HN : Hid (O = none) := Lib.hid (by
                rw [← HRo.out]; unfold rndO; rw [← HT0N.out]
                rcases HInv.out with ⟨_, h2, _⟩ | ⟨h1, _⟩
                · cases h2
                · rw [h1]; rfl)
              clear R1 R2
              have hx4 := box4 (a := .slice none 0 0) (b := .slice none 0 0) (c := .slice none 0 0) (d := .int .i64 0) HX0.out
              have v0 := box_cell hx4 0 (.slice none 0 0) rfl
              have v1 := box_cell hx4 1 (.slice none 0 0) rfl
              have v2 := box_cell hx4 2 (.slice none 0 0) rfl
              have v3 := box_cell hx4 3 (.int .i64 0) rfl
              have HBF := Lib.hid ((chg4 (g := T0) (a := .slice none 0 0) (b := .slice none 0 0) (c := .slice none 0 0) (d := .int .i64 0)).below HBW.out (by rw [HT0.out]; exact Nat.le_refl _) HBW.out.size)
              clear hx4
              go_wp2
              refine bodyPost_ret (v := .tuple #[.agg #[.slice none 0 0, .slice none 0 0, .slice none 0 0, .int .i64 0], .bool false]) (by simp [results, Try.results6, go_sem, v0, v1, v2, v3]) rfl (RetRnd.no HN.out HBF.out)
            case true =>
              obtain ⟨rfl, pX, qX, fX, hpX, hmX, hinX⟩ := R2.out rfl
              have hIs : rndRows b sd m x t0 k = some (s, ap) ∧ RndI t0 (s, ap) k 0 m := by
                rcases HInv.out with ⟨h1, _, h3⟩ | ⟨_, h2⟩
                · exact ⟨h1, h3⟩
                · rcases h2 with h2 | h2
                  · exact absurd (R1.out.1 rfl) h2
                  · cases h2
              have hval : ∀ i j, i < k → j < m → fX i j = s.lo i j := fun i j hi hj => by
                have h1 := hinX i j (by rw [hs1]; omega) (by rw [hs2]; omega)
                have h2 : s.lo i j = s.hi i j := hIs.2.fix i j (.inl ⟨hi, hj⟩)
                omega
              have hrng : ∀ i j, i < k → j < m → 0 ≤ fX i j * b ∧ fX i j * b ≤ 1000000 := fun i j hi hj => by
                have h1 := hval i j hi hj
                have h2 := HSub.out.lo i j (by rw [TNN.out]; omega) (by rw [TMM.out]; omega)
                have h3 := HSub.out.hi i j (by rw [TNN.out]; omega) (by rw [TMM.out]; omega)
                have h4 : s.lo i j = s.hi i j := hIs.2.fix i j (.inl ⟨hi, hj⟩)
                obtain ⟨hx0, hx1⟩ := HM2.out.x i j hi hj
                have h5 : t0.lo i j = dnV b (x i j) := by rw [HT0N.out]; exact if_pos ⟨hi, hj⟩
                have h6 : t0.hi i j = upV b (x i j) := by rw [HT0N.out]; exact if_pos ⟨hi, hj⟩
                have h7 := dnV_bd hb2 hx0
                rw [h1]
                have h8 : 0 ≤ s.lo i j * b := Int.mul_nonneg (by omega) (by omega)
                have h9 : s.lo i j * b ≤ upV b (x i j) * b := Int.mul_le_mul_of_nonneg_right (by omega) (by omega)
                rw [Int.mul_comm (upV b (x i j)) b] at h9
                omega
              have HY : Hid (O = some (fun i j => s.lo i j * b)) := Lib.hid (by
                rw [← HRo.out]; unfold rndO; rw [← HT0N.out, hIs.1]; rfl)
              have HVal := Lib.hid hval
              have HRng := Lib.hid hrng
              have HMX := Lib.hid hmX
              clear R1 R2 hIs hval hrng hmX hinX
              go_wp2_with fail
              refine (oFrom_any k m X xc pX qX b fX _ HMX.out hn1 (by omega) hm1 (by omega) HRng.out).mono ?_
              rintro e w7 ⟨p0, p1, p2, p3, X7, R7, C7, xc7, rc7, cc7, rfl, o7, hp7, b7⟩
              have hx7 := box_below HX0.out b7
              have g0 := box_cell hx7 0 (.slice none 0 0) rfl
              have g1' := box_cell hx7 1 (.slice none 0 0) rfl
              have g2 := box_cell hx7 2 (.slice none 0 0) rfl
              have g3 := box_cell hx7 3 (.int .i64 0) rfl
              have f0 := box_free hx7 0
              have f1 := box_free hx7 1
              have f2 := box_free hx7 2
              have f3 := box_free hx7 3
              have htt : totS k m (fun i j => fX i j * b) = totS k m (fun i j => s.lo i j * b) := totS_fn fun i j hi hj => by rw [HVal.out i j hi hj]
              have HTT := Lib.hid htt
              have hTp : T0 < p0 := by have := lt_of_block HX0.out; omega
              generalize totS k m (fun i j => fX i j * b) = tt at *
              have hx8 := box4 (a := .slice X7 k xc7) (b := .slice R7 k rc7) (c := .slice C7 m cc7) (d := .int .i64 tt) hx7
              have v0 := box_cell hx8 0 (.slice X7 k xc7) rfl
              have v1 := box_cell hx8 1 (.slice R7 k rc7) rfl
              have v2 := box_cell hx8 2 (.slice C7 m cc7) rfl
              have v3 := box_cell hx8 3 (.int .i64 tt) rfl
              have hc8 := chg4 (w := w7) (g := T0) (a := .slice X7 k xc7) (b := .slice R7 k rc7) (c := .slice C7 m cc7) (d := .int .i64 tt)
              have HFin := Lib.hid (And.intro ((o7.fn (y := fun i j => s.lo i j * b) fun i j hi hj => by rw [HVal.out i j hi hj]).chg hc8 hTp) (And.intro (show w.heap.size ≤ p0 by rw [HT0.out]; omega) (hc8.below (HBW.out.trans (b7.mono HBW.out.size)) (by rw [HT0.out]; exact Nat.le_refl _) (Nat.le_trans HBW.out.size b7.size))))
              clear hx8 hc8 o7 hp7 b7 hx7 htt z0 z1 z2 z3 y0 y1 y2 y3 rok hTp
              go_wp2
              exact bodyPost_ret (v := .tuple #[.agg #[.slice X7 k xc7, .slice R7 k rc7, .slice C7 m cc7, .int .i64 tt], .bool true]) (by simp [results, Try.results6, go_sem, v0, v1, v2, v3]) rfl (by rw [← HME.out]; exact RetRnd.yes HY.out HTT.out HFin.out.1 HFin.out.2.1 HFin.out.2.2)
        case pos =>
          obtain ⟨ax, rfl, V, cv, cx, hv⟩ := matR_row (IntsS.below HMR.out HB.out) hlt
          obtain ⟨ax2, e2, V2, cv2, cx2, hv2⟩ := matR_row HMR.out hlt
          obtain rfl : ax = ax2 := Option.some.inj e2
          have hcx := (HB.out.cell (block_lt_of_cell cx2)).trans cx2
          rw [cx] at hcx
          injection hcx with hcx
          injection hcx with hV _ hcv
          subst hV hcv
          have HV := Lib.hid hv2
          clear hv hv2 cx2 e2
          go_wp2_with fail
          clear cx
          go_loopw [45] (fun jv wr => ∃ (q : Nat) (s : Net) (ap : Int) (al : Bool) (L' H' : Option Addr) (lc' hc' : Nat), q ≤ m ∧ jv = .int .i64 q ∧ Hid (Inv t0 (rndRow b sd x k (rndRows b sd m x t0 k) q) s ap al k q m) ∧ Hid (SubN s t0) ∧ Hid (RdrAt wr g1 sd ap al) ∧ 0 ≤ ap ∧ ap ≤ 1000000 ∧ Hid (wr.heap[T9]? = some (.cells #[.slice R (n + 1) rc, .slice C (m + 1) cc, .slice L' (n + 1) lc', .slice H' (n + 1) hc'] 54 (0, 0))) ∧ Hid (NetK2 wr T9 g1 R C L' H' s) ∧ Hid (Below w2.heap.size w2 wr) ∧ Hid (T9 < wr.heap.size)) (fun jv _ => m - (intOf jv).toNat)
          case atStart => exact ⟨0, s, ap, al, L', H', lc', hc', Nat.zero_le _, rfl, HInv, HSub, HR, hap0, hap1, HX, HK, HB, HS⟩
          case round =>
            clear HInv HSub HR HX HK HB HS hap0 hap1
            obtain ⟨q, s, ap, al, L', H', lc', hc', hq, rfl, HInv, HSub, HR, hap0, hap1, HX, HK, HB, HS⟩ := hrel
            by_cases hlq : q < m
            case neg =>
              obtain rfl : q = m := by omega
              have HInv2 : Hid (Inv t0 (rndRows b sd q x t0 (k + 1)) s ap al (k + 1) 0 q) := Lib.hid (HInv.out.row (by omega))
              go_wp2
              go_roundw
              case rel => exact ⟨k + 1, s, ap, al, L', H', lc', hc', by omega, by go_num, HInv2, HSub, HR, hap0, hap1, HX, HK, HB, HS⟩
              case measure => simp [intOf]; omega
            case pos =>
              obtain ⟨av, rfl, cx⟩ := vecR_at (Ints.below HV.out HB.out) hlq
              have hs1 : s.n = n + 1 := HSub.out.n.trans TNN.out
              have hs2 : s.m = m + 1 := HSub.out.m.trans TMM.out
              have S1 := Lib.hid hs1
              have S2 := Lib.hid hs2
              obtain ⟨hx0, hx1⟩ := HM2.out.x k q hlt hlq
              obtain ⟨v, hv⟩ : ∃ v, x k q = v := ⟨_, rfl⟩
              have HVx := Lib.hid hv
              rw [hv] at cx hx0 hx1
              have KL := Lib.hid (fun (W : World) (hb : Below wr.heap.size wr W) => tLow_any (n + 1) (m + 1) k q R C L' H' rc cc lc' hc' s W hs1 hs2 (HK.out.now.below hb) HSub.out.b (by omega) (by omega))
              have KH := Lib.hid (fun (W : World) (hb : Below wr.heap.size wr W) => tHigh_any (n + 1) (m + 1) k q R C L' H' rc cc lc' hc' s W hs1 hs2 (HK.out.now.below hb) HSub.out.b (by omega) (by omega))
              have d0 : (World.drew wr).cell? ⟨T9, 0, none⟩ = some (.slice R (n + 1) rc) := box_cell HX.out 0 _ rfl
              have d1 : (World.drew wr).cell? ⟨T9, 1, none⟩ = some (.slice C (m + 1) cc) := box_cell HX.out 1 _ rfl
              have d2 : (World.drew wr).cell? ⟨T9, 2, none⟩ = some (.slice L' (n + 1) lc') := box_cell HX.out 2 _ rfl
              have d3 : (World.drew wr).cell? ⟨T9, 3, none⟩ = some (.slice H' (n + 1) hc') := box_cell HX.out 3 _ rfl
              have BD : Hid (Below wr.heap.size wr (World.drew wr)) := Lib.hid (Below.refl _ _).drew
              clear hs1 hs2 hv
              go_upto_region 11 with (fail)
              clear cx
              go_cut [14, 15] (fun v14 v15 wx => ∃ lo hi : Int, v14 = .int .i64 lo ∧ v15 = .int .i64 hi ∧ s.lo k q ≤ lo ∧ lo ≤ s.hi k q ∧ s.lo k q ≤ hi ∧ hi ≤ s.hi k q ∧ Hid (s.Feas → s.IsMin k q lo) ∧ Hid (s.Feas → s.IsMax k q hi) ∧ Below wr.heap.size wr wx)
              case first =>
                go_region_held3 (fun w' => w'.cell? ⟨T9, 0, none⟩ = some (.slice R (n + 1) rc) ∧ w'.cell? ⟨T9, 1, none⟩ = some (.slice C (m + 1) cc) ∧ w'.cell? ⟨T9, 2, none⟩ = some (.slice L' (n + 1) lc') ∧ w'.cell? ⟨T9, 3, none⟩ = some (.slice H' (n + 1) hc')) (first | with_reducible exact ⟨p0, p1, p2, p3⟩ | with_reducible exact ⟨q0, q1, q2, q3⟩ | with_reducible exact ⟨d0, d1, d2, d3⟩ | go_keep) (first
                  | (go_simp; go_at_call 29; (with_reducible refine (KL.out _ ?_).mono ?_); (exact BD.out); rintro e w5 ⟨lo, rfl, hlo1, hlo2, hlo3, b5⟩; have B5 := Lib.hid (BD.out.trans (b5.mono BD.out.size)); have HLO := Lib.hid hlo3; have q0 := cellLater d0 b5; have q1 := cellLater d1 b5; have q2 := cellLater d2 b5; have q3 := cellLater d3 b5; clear hlo3 b5; dsimp only)
                  | (go_simp; go_at_call 30; (with_reducible refine (KH.out _ ?_).mono ?_); (exact B5.out); rintro e w6 ⟨hi, rfl, hhi1, hhi2, hhi3, b6⟩; have B6 := Lib.hid (B5.out.trans (b6.mono B5.out.size)); have HHI := Lib.hid hhi3; have p0 := cellLater q0 b6; have p1 := cellLater q1 b6; have p2 := cellLater q2 b6; have p3 := cellLater q3 b6; clear hhi3 b6; dsimp only)
                  | fail)
                all_goals (go_wp2_with fail; go_meet)
                all_goals exact ⟨lo, hi, rfl, rfl, hlo1, hlo2, hhi1, hhi2, HLO, HHI, B6.out⟩
              case rest =>
                obtain ⟨lo, hi, rfl, rfl, hlo1, hlo2, hhi1, hhi2, HLO, HHI, hbc⟩ := hcut
                have HX5 := Lib.hid (box_below HX.out hbc)
                have HK5 := Lib.hid (HK.out.on (KeepBut.below hbc))
                have HR5 := Lib.hid (HR.out.below hbc)
                have HB5 := Lib.hid (HB.out.trans (hbc.mono HB.out.size))
                have HS5 := Lib.hid (Nat.lt_of_lt_of_le HS.out hbc.size)
                clear KL KH d0 d1 d2 d3 BD hbc HX HK HR HB HS
                by_cases hlh : lo < hi
                case neg =>
                  have hd : decide (lo < hi) = false := decide_eq_false hlh
                  have HInvN : Hid (Inv t0 (rndRow b sd x k (rndRows b sd m x t0 k) (q + 1)) (s.bound k q lo lo) ap al k (q + 1) m) := Lib.hid (HInv.out.one HSub.out (by rw [TNN.out]; omega) (by rw [TMM.out]; omega) hlq hlo1 hlo2 HLO.out HHI.out hlh)
                  clear hlh HInv
                  go_upto_region 13 with (fail)
                  go_quiet (fail)
                  have HXn : Hid ((wc.drewN nq).heap[T9]? = _) := Lib.hid HX5.out
                  have HKn := Lib.hid (HK5.out.on (KeepBut.below (below_drewN (Below.refl _ _) nq)))
                  have HRn := Lib.hid (HR5.out.below (below_drewN (Below.refl _ _) nq))
                  have HBn := Lib.hid (below_drewN HB5.out nq)
                  have HSn : Hid (T9 < (wc.drewN nq).heap.size) := Lib.hid HS5.out
                  have hz1 := hlo1
                  have hz2 := hlo2
                  have hpn0 := hap0
                  have hpn1 := hap1
                  clear hd HX5 HK5 HR5 HB5 HS5
                  have d0 := box_cell HXn.out 0 (.slice R (n + 1) rc) rfl
                  have d1 := box_cell HXn.out 1 (.slice C (m + 1) cc) rfl
                  have d2 := box_cell HXn.out 2 (.slice L' (n + 1) lc') rfl
                  have d3 := box_cell HXn.out 3 (.slice H' (n + 1) hc') rfl
                  go_wp2_with fail
                  refine (tWith_any (n + 1) (m + 1) k q lo lo R C L' H' rc cc lc' hc' s _ S1.out S2.out HKn.out.now (by omega) (by omega) (by omega) (by omega) (by omega)).mono ?_
                  rintro e w6 ⟨L6, H6, lc6, hc6, rfl, n6, b6, p1, q1, p2, q2, hp1, hp2, o1, o2⟩
                  have x6 := box_below HXn.out b6
                  have e0 := box_cell x6 0 (.slice R (n + 1) rc) rfl
                  have e1 := box_cell x6 1 (.slice C (m + 1) cc) rfl
                  have e2 := box_cell x6 2 (.slice L' (n + 1) lc') rfl
                  have e3 := box_cell x6 3 (.slice H' (n + 1) hc') rfl
                  have f0 := box_free x6 0
                  have f1 := box_free x6 1
                  have f2 := box_free x6 2
                  have f3 := box_free x6 3
                  have X7 := Lib.hid (box4 (a := .slice R (n + 1) rc) (b := .slice C (m + 1) cc) (c := .slice L6 (n + 1) lc6) (d := .slice H6 (n + 1) hc6) x6)
                  have hc7 := chg4 (w := w6) (g := T9) (a := .slice R (n + 1) rc) (b := .slice C (m + 1) cc) (c := .slice L6 (n + 1) lc6) (d := .slice H6 (n + 1) hc6)
                  have HK7 := Lib.hid ((HKn.out.with_ HSn.out HRn.out.lt b6 hp1 hp2 (by rw [S1.out, S2.out]; exact o1) (by rw [S1.out, S2.out]; exact o2)).on (KeepBut.chg1 hc7))
                  have HB7 := Lib.hid (hc7.below (HBn.out.trans (b6.mono HBn.out.size)) (by omega) (Nat.le_trans HBn.out.size b6.size))
                  have HS7 := Lib.hid (Nat.lt_of_lt_of_le (Nat.lt_of_lt_of_le HSn.out b6.size) hc7.size)
                  have HR7 := Lib.hid (show RdrAt _ g1 sd ap al from box_chg (box_below HRn.out b6) hc7 (by omega))
                  have HSub7 := Lib.hid (HSub.out.set (i := k) (j := q) (v := lo) (by rw [TNN.out]; omega) (by rw [TMM.out]; omega) hz1 hz2)
                  clear d0 d1 d2 d3 n6 b6 hp1 hp2 o1 o2 x6 hc7 HXn HKn HBn HSn HRn
                  go_wp2
                  go_roundw
                  case rel => exact ⟨q + 1, _, ap, al, L6, H6, lc6, hc6, by omega, by go_num, HInvN, HSub7, HR7, hpn0, hpn1, X7, HK7, HB7, HS7⟩
                  case measure => simp [intOf]; omega
                case pos =>
                  obtain ⟨RR, hRR⟩ : ∃ RR, (if al = true then belowM sd b ap else none) = RR := ⟨_, rfl⟩
                  have HRR := Lib.hid hRR
                  have KB := Lib.hid (fun (W : World) (hr : RdrAt W g1 sd ap al) => kbelow_any g1 sd ap b al W hr hap0 hap1 (by omega) (by omega))
                  rw [hRR] at KB
                  have hb0 : ¬ b = 0 := by omega
                  obtain ⟨rem, hrem⟩ : ∃ rem, v.tmod b = rem := ⟨_, rfl⟩
                  have hrb : 0 ≤ rem ∧ rem < b := by rw [← hrem]; exact ⟨Int.tmod_nonneg _ hx0, Int.tmod_lt_of_pos _ (by omega)⟩
                  have W1 : IntKind.i64.wrap rem = rem := IntWalk.i64_in _ ⟨by omega, by omega⟩
                  have HREM := Lib.hid hrem
                  have HRd : Hid (RdrAt (World.drew wc) g1 sd ap al) := Lib.hid HR5.out
                  clear hRR
                  go_upto_region 13 with (fail)
                  go_cut [70] (fun v70 wx => ∃ (u a2 : Int) (al2 bb : Bool), v70 = .bool bb ∧ Hid (bb = decide (u < rem)) ∧ RdrAt wx g1 sd a2 al2 ∧ 0 ≤ a2 ∧ a2 ≤ 1000000 ∧ Chg g1 (g1 + 1) wc wx ∧ ((RR = some (u, a2) ∧ al2 = true) ∨ (RR = none ∧ al2 = false)))
                  case first =>
                    have hd9 : Chg g1 (g1 + 1) wc (World.drew wc) := Chg.of_below (Below.refl _ _).drew
                    have hbd := Lib.hid (fun (u a2 : Int) (h : RR = some (u, a2)) => (show 0 ≤ a2 ∧ a2 ≤ 1000000 from by
                      rw [← HRR.out] at h
                      cases al
                      · cases h
                      · have := belowM_bd h hap0 hap1; exact ⟨this.2.2.1, this.2.2.2⟩))
                    cases RR with
                    | none =>
                      go_region_held3 (fun _ => True) (trivial) (first | (go_simp; go_at_call 31; (with_reducible refine (KB.out _ ?_).mono ?_); (exact HRd.out); rintro e w5 ⟨_, hno, hc5⟩; obtain ⟨rfl, a2, hr5, h50, h51⟩ := hno rfl; have hc6 := hd9.trans hc5; dsimp only) | fail)
                      all_goals (go_wp2_with fail; go_meet)
                      all_goals exact ⟨0, a2, false, _, rfl, Lib.hid rfl, hr5, h50, h51, hc6, by simp⟩
                    | some pr =>
                      obtain ⟨u, a2⟩ := pr
                      obtain ⟨h50, h51⟩ := hbd.out u a2 rfl
                      go_region_held3 (fun _ => True) (trivial) (first | (go_simp; go_at_call 31; (with_reducible refine (KB.out _ ?_).mono ?_); (exact HRd.out); rintro e w5 ⟨hyes, _, hc5⟩; obtain ⟨rfl, hr5⟩ := hyes u a2 rfl; have hc6 := hd9.trans hc5; dsimp only) | fail)
                      all_goals (go_wp2_with fail; go_meet)
                      all_goals exact ⟨u, a2, true, _, rfl, Lib.hid rfl, hr5, h50, h51, hc6, by simp⟩
                  case rest =>
                    obtain ⟨u, a2, al2, bb, rfl, HBb, hr5, hpn0, hpn1, hc5, hcase⟩ := hcut
                    have HXn : Hid (wc.heap[T9]? = _) := Lib.hid (box_chg HX5.out hc5 (by omega))
                    have HKn := Lib.hid (HK5.out.on (KeepBut.chg2 hc5))
                    have HRn := Lib.hid hr5
                    have HBn := Lib.hid (hc5.below HB5.out hw2g HB5.out.size)
                    have HSn := Lib.hid (Nat.lt_of_lt_of_le HS5.out hc5.size)
                    have HIv := Lib.hid (show ∀ vz, vz = (if u < v.tmod b then hi else lo) → Inv t0 (rndRow b sd x k (rndRows b sd m x t0 k) (q + 1)) (s.bound k q vz vz) a2 al2 k (q + 1) m from fun vz hvz => by
                      subst hvz
                      rw [rndRow_succ, HVx.out]
                      rcases hcase with ⟨h1, rfl⟩ | ⟨h1, rfl⟩
                      · have h2 := HRR.out
                        rw [h1] at h2
                        cases al
                        · cases h2
                        · exact HInv.out.two HSub.out (by rw [TNN.out]; omega) (by rw [TMM.out]; omega) hlq hlo1 hlo2 hhi1 hhi2 HLO.out HHI.out hlh h2 hpn0 hpn1
                      · exact HInv.out.die (by rw [HRR.out]; exact h1) HLO.out HHI.out hlh)
                    clear hc5 hr5 hcase HX5 HK5 HR5 HB5 HS5 KB W1 hb0 hrem HRd HRR HInv hlh
                    cases bb
                    case true =>
                      have hu : u < rem := of_decide_eq_true HBb.out.symm
                      have HInvN := Lib.hid (HIv.out hi (by rw [HREM.out, if_pos hu]))
                      have hz1 := hhi1
                      have hz2 := hhi2
                      clear HIv hu HREM hrb HBb
                      have d0 := box_cell HXn.out 0 (.slice R (n + 1) rc) rfl
                      have d1 := box_cell HXn.out 1 (.slice C (m + 1) cc) rfl
                      have d2 := box_cell HXn.out 2 (.slice L' (n + 1) lc') rfl
                      have d3 := box_cell HXn.out 3 (.slice H' (n + 1) hc') rfl
                      go_wp2_with fail
                      refine (tWith_any (n + 1) (m + 1) k q hi hi R C L' H' rc cc lc' hc' s _ S1.out S2.out HKn.out.now (by omega) (by omega) (by omega) (by omega) (by omega)).mono ?_
                      rintro e w6 ⟨L6, H6, lc6, hc6, rfl, n6, b6, p1, q1, p2, q2, hp1, hp2, o1, o2⟩
                      have x6 := box_below HXn.out b6
                      have e0 := box_cell x6 0 (.slice R (n + 1) rc) rfl
                      have e1 := box_cell x6 1 (.slice C (m + 1) cc) rfl
                      have e2 := box_cell x6 2 (.slice L' (n + 1) lc') rfl
                      have e3 := box_cell x6 3 (.slice H' (n + 1) hc') rfl
                      have f0 := box_free x6 0
                      have f1 := box_free x6 1
                      have f2 := box_free x6 2
                      have f3 := box_free x6 3
                      have X7 := Lib.hid (box4 (a := .slice R (n + 1) rc) (b := .slice C (m + 1) cc) (c := .slice L6 (n + 1) lc6) (d := .slice H6 (n + 1) hc6) x6)
                      have hc7 := chg4 (w := w6) (g := T9) (a := .slice R (n + 1) rc) (b := .slice C (m + 1) cc) (c := .slice L6 (n + 1) lc6) (d := .slice H6 (n + 1) hc6)
                      have HK7 := Lib.hid ((HKn.out.with_ HSn.out HRn.out.lt b6 hp1 hp2 (by rw [S1.out, S2.out]; exact o1) (by rw [S1.out, S2.out]; exact o2)).on (KeepBut.chg1 hc7))
                      have HB7 := Lib.hid (hc7.below (HBn.out.trans (b6.mono HBn.out.size)) (by omega) (Nat.le_trans HBn.out.size b6.size))
                      have HS7 := Lib.hid (Nat.lt_of_lt_of_le (Nat.lt_of_lt_of_le HSn.out b6.size) hc7.size)
                      have HR7 := Lib.hid (show RdrAt _ g1 sd a2 al2 from box_chg (box_below HRn.out b6) hc7 (by omega))
                      have HSub7 := Lib.hid (HSub.out.set (i := k) (j := q) (v := hi) (by rw [TNN.out]; omega) (by rw [TMM.out]; omega) hz1 hz2)
                      clear d0 d1 d2 d3 n6 b6 hp1 hp2 o1 o2 x6 hc7 HXn HKn HBn HSn HRn
                      go_wp2
                      go_roundw
                      case rel => exact ⟨q + 1, _, a2, al2, L6, H6, lc6, hc6, by omega, by go_num, HInvN, HSub7, HR7, hpn0, hpn1, X7, HK7, HB7, HS7⟩
                      case measure => simp [intOf]; omega
                    case false =>
                      have hu : ¬ u < rem := of_decide_eq_false HBb.out.symm
                      have HInvN := Lib.hid (HIv.out lo (by rw [HREM.out, if_neg hu]))
                      have hz1 := hlo1
                      have hz2 := hlo2
                      clear HIv hu HREM hrb HBb
                      have d0 := box_cell HXn.out 0 (.slice R (n + 1) rc) rfl
                      have d1 := box_cell HXn.out 1 (.slice C (m + 1) cc) rfl
                      have d2 := box_cell HXn.out 2 (.slice L' (n + 1) lc') rfl
                      have d3 := box_cell HXn.out 3 (.slice H' (n + 1) hc') rfl
                      go_wp2_with fail
                      refine (tWith_any (n + 1) (m + 1) k q lo lo R C L' H' rc cc lc' hc' s _ S1.out S2.out HKn.out.now (by omega) (by omega) (by omega) (by omega) (by omega)).mono ?_
                      rintro e w6 ⟨L6, H6, lc6, hc6, rfl, n6, b6, p1, q1, p2, q2, hp1, hp2, o1, o2⟩
                      have x6 := box_below HXn.out b6
                      have e0 := box_cell x6 0 (.slice R (n + 1) rc) rfl
                      have e1 := box_cell x6 1 (.slice C (m + 1) cc) rfl
                      have e2 := box_cell x6 2 (.slice L' (n + 1) lc') rfl
                      have e3 := box_cell x6 3 (.slice H' (n + 1) hc') rfl
                      have f0 := box_free x6 0
                      have f1 := box_free x6 1
                      have f2 := box_free x6 2
                      have f3 := box_free x6 3
                      have X7 := Lib.hid (box4 (a := .slice R (n + 1) rc) (b := .slice C (m + 1) cc) (c := .slice L6 (n + 1) lc6) (d := .slice H6 (n + 1) hc6) x6)
                      have hc7 := chg4 (w := w6) (g := T9) (a := .slice R (n + 1) rc) (b := .slice C (m + 1) cc) (c := .slice L6 (n + 1) lc6) (d := .slice H6 (n + 1) hc6)
                      have HK7 := Lib.hid ((HKn.out.with_ HSn.out HRn.out.lt b6 hp1 hp2 (by rw [S1.out, S2.out]; exact o1) (by rw [S1.out, S2.out]; exact o2)).on (KeepBut.chg1 hc7))
                      have HB7 := Lib.hid (hc7.below (HBn.out.trans (b6.mono HBn.out.size)) (by omega) (Nat.le_trans HBn.out.size b6.size))
                      have HS7 := Lib.hid (Nat.lt_of_lt_of_le (Nat.lt_of_lt_of_le HSn.out b6.size) hc7.size)
                      have HR7 := Lib.hid (show RdrAt _ g1 sd a2 al2 from box_chg (box_below HRn.out b6) hc7 (by omega))
                      have HSub7 := Lib.hid (HSub.out.set (i := k) (j := q) (v := lo) (by rw [TNN.out]; omega) (by rw [TMM.out]; omega) hz1 hz2)
                      clear d0 d1 d2 d3 n6 b6 hp1 hp2 o1 o2 x6 hc7 HXn HKn HBn HSn HRn
                      go_wp2
                      go_roundw
                      case rel => exact ⟨q + 1, _, a2, al2, L6, H6, lc6, hc6, by omega, by go_num, HInvN, HSub7, HR7, hpn0, hpn1, X7, HK7, HB7, HS7⟩
                      case measure => simp [intOf]; omega
end Go.Proofs.Ytcjmapdeopffcaa
