/- The seeded rounding: the program. -/
import Derived.Test.YtcjmapdeopffcaaPuS
import Derived.Test.YtcjmapdeopffcaaHm
namespace Go.Proofs.Ytcjmapdeopffcaa
open Go.RowKit Flo
set_option linter.unusedVariables false

/-- What the program's function hands back. -/
def RetRndP (w : World) (n m : Nat) (o : Option (Nat → Nat → Int)) (e : Ending) (w' : World) : Prop :=
  (o = none → e = .returned (.tuple #[.agg #[.slice none 0 0, .slice none 0 0, .slice none 0 0, .int .i64 0], .bool false])) ∧
  (∀ Y, o = some Y → ∃ (X R C : Option Addr) (xc rc cc : Nat), e = .returned (.tuple #[.agg #[.slice X n xc, .slice R n rc, .slice C m cc, .int .i64 (totS n m Y)], .bool true]) ∧ RndP w' w.heap.size X R C n m xc rc cc Y) ∧ Below w.heap.size w w'
theorem RetRndP.no {w w' : World} {n m : Nat} {o : Option (Nat → Nat → Int)} (h : o = none) (hb : Below w.heap.size w w') : RetRndP w n m o (.returned (.tuple #[.agg #[.slice none 0 0, .slice none 0 0, .slice none 0 0, .int .i64 0], .bool false])) w' :=
  ⟨fun _ => rfl, fun Y h2 => (by rw [h] at h2; cases h2), hb⟩
theorem RetRndP.yes {w w' : World} {n m xc rc cc : Nat} {X R C : Option Addr} {Y : Nat → Nat → Int} {o : Option (Nat → Nat → Int)} {tt : Int} (h : o = some Y) (ht : tt = totS n m Y) (ho : RndP w' w.heap.size X R C n m xc rc cc Y) (hb : Below w.heap.size w w') :
    RetRndP w n m o (.returned (.tuple #[.agg #[.slice X n xc, .slice R n rc, .slice C m cc, .int .i64 tt], .bool true])) w' :=
  ⟨fun h2 => (by rw [h] at h2; cases h2), fun Y2 h2 => (by rw [h] at h2; obtain rfl := Option.some.inj h2; subst ht; exact ⟨X, R, C, xc, rc, cc, rfl, ho⟩), hb⟩
section
variable {b sd : Int} {n m k q : Nat} {x : Nat → Nat → Int} {t : Net} {s : Net × Int} {o : Option (Net × Int)}
theorem rndRow_dead (h : rndRow b sd x k o q = none) : ∀ p, rndRow b sd x k o (q + p) = none
  | 0 => h
  | p + 1 => by
    show (rndRow b sd x k o (q + p)).bind _ = none
    rw [rndRow_dead h p]; rfl
theorem rndRows_dead (h : rndRows b sd m x t k = none) : ∀ p, rndRows b sd m x t (k + p) = none
  | 0 => h
  | p + 1 => by
    show rndRow b sd x (k + p) (rndRows b sd m x t (k + p)) m = none
    rw [rndRows_dead h p, rndRow_none]
theorem rnd_die (hk : k < n) (hq : q < m) (h : rndRow b sd x k (rndRows b sd m x t k) q = some s) (hs : rndStep b sd (x k q) k q s = none) : rndRows b sd m x t n = none := by
  have h1 : rndRow b sd x k (rndRows b sd m x t k) (q + 1) = none := by
    show (rndRow b sd x k (rndRows b sd m x t k) q).bind _ = none
    rw [h]; exact hs
  have h2 := rndRow_dead h1 (m - (q + 1))
  rw [show q + 1 + (m - (q + 1)) = m by omega] at h2
  have h3 : rndRows b sd m x t (k + 1) = none := h2
  have h4 := rndRows_dead h3 (n - (k + 1))
  rwa [show k + 1 + (n - (k + 1)) = n by omega] at h4
theorem rnd_one (h : rndRow b sd x k (rndRows b sd m x t k) q = some s) {s' : Net × Int} (hs : rndStep b sd (x k q) k q s = some s') : rndRow b sd x k (rndRows b sd m x t k) (q + 1) = some s' := by
  show (rndRow b sd x k (rndRows b sd m x t k) q).bind _ = some s'
  rw [h]; exact hs
end
theorem NetW.bound {w : World} {B : Nat} {f : Nat → Option Rw} {D C A E : Option Addr} {cD cC cA cE k i j : Nat} {t : Net} {v : Int} (hk : k ≤ t.n) (h : NetW w B f D C A E cD cC cA cE k ((t.setLo i j v).setHi i j v)) : NetW w B f D C A E cD cC cA cE k (t.bound i j v v) :=
  h.fn rfl rfl (fun _ _ => rfl) (fun _ _ => rfl) (fun _ _ _ _ => rfl) (fun _ _ _ _ => rfl) hk

theorem NetW.far {w : World} {B gx k j : Nat} {f : Nat → Option Rw} {D C A E : Option Addr} {cD cC cA cE : Nat} {t : Net} {v : Value} {cs : Array Value} {T : TypeId} (h : NetW w B f D C A E cD cC cA cE j t) (hx : w.heap[gx]? = some (.cells cs T (0, 0))) (hT : T ≠ 3) (hT2 : T ≠ 24) : NetW (w.setCell ⟨gx, k, none⟩ v) B f D C A E cD cC cA cE j t := by
  have hr : ∀ {g n c : Nat} {us : List Value}, w.ownsRow B 24 1 (.slice (some ⟨g, 0, none⟩) n c) n us → g ≠ gx := fun {g n c us} ho e => by
    rcases ho.2 with ⟨h0, _⟩ | ⟨g', cap, cur, hv, _, hh, _⟩
    · cases h0
    · injection hv with hv
      injection hv with hv
      injection hv with hv
      subst hv
      rw [e, hx] at hh
      injection hh with hh
      injection hh with _ hh
      exact hT2 hh
  refine ⟨h.fam.far hx hT, h.d, h.c, h.a.keep fun g hg hs => Below.heap_setCell w ⟨gx, k, none⟩ v g ?_, h.e.keep fun g hg hs => Below.heap_setCell w ⟨gx, k, none⟩ v g ?_, h.ne⟩
  · obtain ⟨ys, h1, _⟩ := h.a
    rcases A with _ | ⟨b, o, z⟩
    · cases hg
    · obtain rfl : b = g := Option.some.inj hg
      rcases h1.2 with ⟨h0, _⟩ | ⟨g', cap, cur, hv, hh⟩
      · cases h0
      · injection hv with hv
        injection hv with hv
        rw [hv] at h1
        have := hr h1
        injection hv with hv
        rw [hv]; exact this
  · obtain ⟨ys, h1, _⟩ := h.e
    rcases E with _ | ⟨b, o, z⟩
    · cases hg
    · obtain rfl : b = g := Option.some.inj hg
      rcases h1.2 with ⟨h0, _⟩ | ⟨g', cap, cur, hv, hh⟩
      · cases h0
      · injection hv with hv
        injection hv with hv
        rw [hv] at h1
        have := hr h1
        injection hv with hv
        rw [hv]; exact this


set_option maxRecDepth 100000 in
set_option maxHeartbeats 8000000 in
theorem implSR_any (A : Option Addr) (n c : Nat) (b sd : Int) (L : Nat → List Int) (w : World) (hx : IntsS w A n L) (hn : n ≤ 1099511627776) (hL : ∀ j, j < n → (L j).length ≤ 1099511627776) :
    Calls Try.prog 8 #[.slice A n c, .int .i64 b, .int .i64 sd] w (RetRndP w n (L 0).length (rndL n L b sd)) := by
  have b0 := below_new w (.cells #[.slice none 0 0, .slice none 0 0, .slice none 0 0, .int .i64 0] 26)
  have x0 := box_new w #[.slice none 0 0, .slice none 0 0, .slice none 0 0, .int .i64 0] 26
  have HX1 := Lib.hid (IntsS.below hx b0)
  have B0 := Lib.hid b0
  have X0 := Lib.hid x0
  have HL := Lib.hid hL
  obtain ⟨O, hO⟩ : ∃ O, rndL n L b sd = O := ⟨_, rfl⟩
  rw [hO]
  have HO := Lib.hid hO
  clear hx hL b0 x0 hO
  go_enter Try.func8, Try.ntmps8
  go_wp2_with fail
  generalize w.alloc (.cells #[.slice none 0 0, .slice none 0 0, .slice none 0 0, .int .i64 0] 26) = w1 at *
  refine (isMatrix_any A n c L _ HX1.out hn HL.out).mono ?_
  rintro e w' ⟨rfl, rfl⟩
  have HRX := X0
  have HBX := B0
  cases hm : mxB n L
  case false =>
    have HNO : Hid (O = none) := Lib.hid (by rw [← HO.out]; unfold rndL; rw [if_neg (fun h => by rw [hm, Bool.and_false] at h; cases h.1)])
    clear hm
    have z0 := box_cell HRX.out 0 (.slice none 0 0) rfl
    have z1 := box_cell HRX.out 1 (.slice none 0 0) rfl
    have z2 := box_cell HRX.out 2 (.slice none 0 0) rfl
    have z3 := box_cell HRX.out 3 (.int .i64 0) rfl
    have y0 := box_free HRX.out 0
    have y1 := box_free HRX.out 1
    have y2 := box_free HRX.out 2
    have y3 := box_free HRX.out 3
    have hx4 := box4 (a := .slice none 0 0) (b := .slice none 0 0) (c := .slice none 0 0) (d := .int .i64 0) HRX.out
    have v0 := box_cell hx4 0 (.slice none 0 0) rfl
    have v1 := box_cell hx4 1 (.slice none 0 0) rfl
    have v2 := box_cell hx4 2 (.slice none 0 0) rfl
    have v3 := box_cell hx4 3 (.int .i64 0) rfl
    have HBZ := Lib.hid ((chg4 (g := w.heap.size) (a := .slice none 0 0) (b := .slice none 0 0) (c := .slice none 0 0) (d := .int .i64 0)).below HBX.out (Nat.le_refl _) HBX.out.size)
    clear hx4
    go_wp2
    refine bodyPost_ret (v := .tuple #[.agg #[.slice none 0 0, .slice none 0 0, .slice none 0 0, .int .i64 0], .bool false]) (by simp [results, Try.results8, go_sem, v0, v1, v2, v3]) rfl (RetRndP.no HNO.out HBZ.out)
  case true =>
    go_wp2_with fail
    refine (isBaseOf_any b _).mono ?_
    rintro e w' ⟨rfl, rfl⟩
    cases hB : inR b 2 100
    case false =>
      have HNO : Hid (O = none) := Lib.hid (by rw [← HO.out]; unfold rndL; rw [if_neg (fun h => by rw [hB, Bool.false_and] at h; cases h.1)])
      clear hB hm
      have z0 := box_cell HRX.out 0 (.slice none 0 0) rfl
      have z1 := box_cell HRX.out 1 (.slice none 0 0) rfl
      have z2 := box_cell HRX.out 2 (.slice none 0 0) rfl
      have z3 := box_cell HRX.out 3 (.int .i64 0) rfl
      have y0 := box_free HRX.out 0
      have y1 := box_free HRX.out 1
      have y2 := box_free HRX.out 2
      have y3 := box_free HRX.out 3
      have hx4 := box4 (a := .slice none 0 0) (b := .slice none 0 0) (c := .slice none 0 0) (d := .int .i64 0) HRX.out
      have v0 := box_cell hx4 0 (.slice none 0 0) rfl
      have v1 := box_cell hx4 1 (.slice none 0 0) rfl
      have v2 := box_cell hx4 2 (.slice none 0 0) rfl
      have v3 := box_cell hx4 3 (.int .i64 0) rfl
      have HBZ := Lib.hid ((chg4 (g := w.heap.size) (a := .slice none 0 0) (b := .slice none 0 0) (c := .slice none 0 0) (d := .int .i64 0)).below HBX.out (Nat.le_refl _) HBX.out.size)
      clear hx4
      go_wp2
      refine bodyPost_ret (v := .tuple #[.agg #[.slice none 0 0, .slice none 0 0, .slice none 0 0, .int .i64 0], .bool false]) (by simp [results, Try.results8, go_sem, v0, v1, v2, v3]) rfl (RetRndP.no HNO.out HBZ.out)
    case true =>
      go_wp2_with fail
      refine (isSeed_any sd _).mono ?_
      rintro e w' ⟨rfl, rfl⟩
      cases hs : inR sd 0 4611686016279904236
      case false =>
        have HNO : Hid (O = none) := Lib.hid (by rw [← HO.out]; unfold rndL; rw [if_neg (fun h => by rw [hs] at h; cases h.2)])
        clear hB hm hs
        have z0 := box_cell HRX.out 0 (.slice none 0 0) rfl
        have z1 := box_cell HRX.out 1 (.slice none 0 0) rfl
        have z2 := box_cell HRX.out 2 (.slice none 0 0) rfl
        have z3 := box_cell HRX.out 3 (.int .i64 0) rfl
        have y0 := box_free HRX.out 0
        have y1 := box_free HRX.out 1
        have y2 := box_free HRX.out 2
        have y3 := box_free HRX.out 3
        have hx4 := box4 (a := .slice none 0 0) (b := .slice none 0 0) (c := .slice none 0 0) (d := .int .i64 0) HRX.out
        have v0 := box_cell hx4 0 (.slice none 0 0) rfl
        have v1 := box_cell hx4 1 (.slice none 0 0) rfl
        have v2 := box_cell hx4 2 (.slice none 0 0) rfl
        have v3 := box_cell hx4 3 (.int .i64 0) rfl
        have HBZ := Lib.hid ((chg4 (g := w.heap.size) (a := .slice none 0 0) (b := .slice none 0 0) (c := .slice none 0 0) (d := .int .i64 0)).below HBX.out (Nat.le_refl _) HBX.out.size)
        clear hx4
        go_wp2
        refine bodyPost_ret (v := .tuple #[.agg #[.slice none 0 0, .slice none 0 0, .slice none 0 0, .int .i64 0], .bool false]) (by simp [results, Try.results8, go_sem, v0, v1, v2, v3]) rfl (RetRndP.no HNO.out HBZ.out)
      case true =>
        clear HRX HBX
        have hg : (inR b 2 100 && mxB n L) = true ∧ inR sd 0 4611686016279904236 = true := ⟨by rw [hB, hm]; rfl, hs⟩
        obtain ⟨hn1, hn7, hm1, hm7, hsh, hxb⟩ := mxB_of hm
        have hbb := inR_of hB
        have HSD := Lib.hid hs
        obtain ⟨x, hxe⟩ : ∃ x : Nat → Nat → Int, x = fun i j => (L i)[j]?.getD 0 := ⟨_, rfl⟩
        obtain ⟨m, hme⟩ : ∃ m, m = (L 0).length := ⟨_, rfl⟩
        have HRo : Hid (rndO n m b sd x = O) := Lib.hid (by rw [← HO.out, hxe, hme]; unfold rndL; rw [if_pos hg])
        have HM : Hid (MxB n m b x) := Lib.hid (by rw [hxe, hme]; exact ⟨hn1, hn7, hm1, hm7, hbb.1, hbb.2, hxb⟩)
        have HMW : Hid (∀ W, Below w1.heap.size w1 W → MatR W A n m x) := Lib.hid (fun W hb => by
          rw [hxe]
          exact matR_of (IntsS.below HX1.out hb) (fun i hi => by rw [hme]; exact hsh i hi))
        rw [← hme] at hm1 hm7 ⊢
        obtain ⟨hb2, hb100⟩ := hbb
        have hBB : inR b 1 1000000000 = true := inR_yes (by omega) (by omega)
        have HBI := Lib.hid hBB
        have HME := Lib.hid hme
        clear hg hsh hxb hxe hme hm hB hs hBB HL HX1
        obtain ⟨ad, rfl, _, _, _, _⟩ := matR_row (HMW.out _ (Below.refl _ _)) (show 0 < n by omega)
        go_wp2_with fail
        have hnw := implNetwork_any n m b (some ad) c x w1 (HMW.out _ (Below.refl _ _)) HM.out
        refine hnw.mono ?_
        clear hnw
        rintro e w3 ⟨R, C, Lo, Hi, rc, cc, lc, hc, B, f, rfl, hB3, hN3, b3⟩
        have HBB := Lib.hid hB3
        obtain ⟨T8, hT8⟩ : ∃ T8, w3.heap.size = T8 := ⟨_, rfl⟩
        have HT8 := Lib.hid hT8
        have b8 := below_new w3 (.cells #[.slice R (n + 1) rc, .slice C (m + 1) cc, .slice Lo (n + 1) lc, .slice Hi (n + 1) hc] 54)
        have b9 := below_new (w3.alloc (.cells #[.slice R (n + 1) rc, .slice C (m + 1) cc, .slice Lo (n + 1) lc, .slice Hi (n + 1) hc] 54)) (.cells #[.int .i64 sd, .int .i64 0] 52)
        have x8 := box_below (box_new w3 #[.slice R (n + 1) rc, .slice C (m + 1) cc, .slice Lo (n + 1) lc, .slice Hi (n + 1) hc] 54) b9
        have x9 := box_new (w3.alloc (.cells #[.slice R (n + 1) rc, .slice C (m + 1) cc, .slice Lo (n + 1) lc, .slice Hi (n + 1) hc] 54)) #[.int .i64 sd, .int .i64 0] 52
        rw [World.size_alloc, hT8] at x9
        rw [hT8] at x8
        have HT8L : Hid (w1.heap.size ≤ T8) := Lib.hid (by rw [← HT8.out]; exact b3.size)
        have HS0 : Hid (T8 + 1 < ((w3.alloc (.cells #[.slice R (n + 1) rc, .slice C (m + 1) cc, .slice Lo (n + 1) lc, .slice Hi (n + 1) hc] 54)).alloc (.cells #[.int .i64 sd, .int .i64 0] 52)).heap.size) := Lib.hid (by rw [World.size_alloc, World.size_alloc, HT8.out]; omega)
        have HB0 := Lib.hid ((b3.trans (b8.mono b3.size)).trans (b9.mono (Nat.le_trans b3.size b8.size)))
        have HN0 := Lib.hid ((hN3.below b8).below b9)
        have H80 := Lib.hid x8
        have H90 := Lib.hid x9
        obtain ⟨t0, ht0⟩ : ∃ t0, t0 = netOf n m b x := ⟨_, rfl⟩
        have HT0N := Lib.hid ht0
        have HTB : Hid (NetB t0) := Lib.hid (by rw [ht0]; exact HM.out.netB)
        have TNN : Hid (t0.n = n + 1) := Lib.hid (by rw [ht0]; rfl)
        have TMM : Hid (t0.m = m + 1) := Lib.hid (by rw [ht0]; rfl)
        rw [← ht0] at HN0
        have HR0 : Hid (rndRows b sd m x t0 0 = some (t0, 0)) := Lib.hid rfl
        have HI0 : Hid (RndI t0 (t0, 0) 0 0 m) := Lib.hid ⟨SubN.refl HTB.out, (fun h => by omega), (fun i j h => by omega), Int.le_refl _, by show (0 : Int) ≤ 1000000; omega⟩
        clear hB3 hN3 b3 b8 b9 x8 x9 ht0
        go_wp2_with fail
        clear hT8
        generalize (w3.alloc (.cells #[.slice R (n + 1) rc, .slice C (m + 1) cc, .slice Lo (n + 1) lc, .slice Hi (n + 1) hc] 54)).alloc (.cells #[.int .i64 sd, .int .i64 0] 52) = w5 at *
        go_loopw [40] (fun iv wr => ∃ (k : Nat) (s : Net) (ap : Int) (f : Nat → Option Rw), k ≤ n ∧ iv = .int .i64 k ∧ Hid (rndRows b sd m x t0 k = some (s, ap)) ∧ Hid (RndI t0 (s, ap) k 0 m) ∧ Hid (wr.heap[T8]? = some (.cells #[.slice R (n + 1) rc, .slice C (m + 1) cc, .slice Lo (n + 1) lc, .slice Hi (n + 1) hc] 54 (0, 0))) ∧ Hid (wr.heap[T8 + 1]? = some (.cells #[.int .i64 sd, .int .i64 ap] 52 (0, 0))) ∧ Hid (NetW wr B f R C Lo Hi rc cc lc hc (n + 1) s) ∧ Hid (Below w1.heap.size w1 wr) ∧ Hid (T8 + 1 < wr.heap.size)) (fun iv _ => n - (intOf iv).toNat)
        case atStart => exact ⟨0, t0, 0, f, Nat.zero_le _, rfl, HR0, HI0, H80, H90, HN0, HB0, HS0⟩
        case round =>
          clear HR0 HI0 H80 H90 HN0 HB0 HS0
          obtain ⟨k, s, ap, f, hk, rfl, HRk, HIk, H8, H9, HN, HBw, HS⟩ := hrel
          by_cases hlt : k < n
          case neg =>
            have HS1 : Hid (s.n = n + 1) := Lib.hid (HIk.out.sub.n.trans TNN.out)
            have HS2 : Hid (s.m = m + 1) := Lib.hid (HIk.out.sub.m.trans TMM.out)
            obtain rfl : n = k := by omega
            have hrng : ∀ i j, i < n → j < m → 0 ≤ s.lo i j * b ∧ s.lo i j * b ≤ 1000000 := fun i j hi hj => by
              have h2 : t0.lo i j ≤ s.lo i j := HIk.out.sub.lo i j (by rw [TNN.out]; omega) (by rw [TMM.out]; omega)
              have h3 : s.hi i j ≤ t0.hi i j := HIk.out.sub.hi i j (by rw [TNN.out]; omega) (by rw [TMM.out]; omega)
              have h4 : s.lo i j = s.hi i j := HIk.out.fix i j (.inl ⟨hi, hj⟩)
              obtain ⟨hx0, hx1⟩ := HM.out.x i j hi hj
              have h5 : t0.lo i j = dnV b (x i j) := by rw [HT0N.out]; exact if_pos ⟨hi, hj⟩
              have h6 : t0.hi i j = upV b (x i j) := by rw [HT0N.out]; exact if_pos ⟨hi, hj⟩
              have h7 := dnV_bd hb2 hx0
              have h8 : 0 ≤ s.lo i j * b := Int.mul_nonneg (by omega) (by omega)
              have h9 : s.lo i j * b ≤ upV b (x i j) * b := Int.mul_le_mul_of_nonneg_right (by omega) (by omega)
              rw [Int.mul_comm (upV b (x i j)) b] at h9
              omega
            have HY : Hid (O = some (fun i j => s.lo i j * b)) := Lib.hid (by
              rw [← HRo.out]; unfold rndO; rw [← HT0N.out, HRk.out]; rfl)
            have HRng := Lib.hid hrng
            have HFL : Hid (MatR wr Lo (n + 1) (m + 1) s.lo) := Lib.hid (by
              have h := HN.out
              rw [← HS1.out] at h
              have h2 := h.read.lo
              rw [HS1.out, HS2.out] at h2
              exact h2)
            have c2 := box_cell H8.out 2 (.slice Lo (n + 1) lc) rfl
            have HXW := Lib.hid (HMW.out _ HBw.out)
            have HBQ := Lib.hid (B0.out.trans (HBw.out.mono B0.out.size))
            have HXQ := Lib.hid (box_below X0.out HBw.out)
            clear hrng
            go_wp2_with fail
            have hro := roundingOf_any n m b (some ad) Lo c lc x s.lo wr HXW.out HFL.out hn1 hn7 hm1 hm7 HRng.out
            refine hro.mono ?_
            clear hro
            rintro e w5 ⟨X, R', C', xc, rc', cc', rfl, hP, b5⟩
            have HB5 := Lib.hid (HBQ.out.trans (b5.mono HBQ.out.size))
            have HX4 := Lib.hid (box_below HXQ.out b5)
            obtain ⟨tt, htt⟩ : ∃ tt, tt = totS n m (fun i j => s.lo i j * b) := ⟨_, rfl⟩
            rw [← htt]
            have HTT := Lib.hid htt
            have hx4 := box4 (a := .slice X n xc) (b := .slice R' n rc') (c := .slice C' m cc') (d := .int .i64 tt) HX4.out
            have hc4 := chg4 (w := w5) (g := w.heap.size) (a := .slice X n xc) (b := .slice R' n rc') (c := .slice C' m cc') (d := .int .i64 tt)
            have s1 : w.heap.size < wr.heap.size := lt_of_block HXQ.out
            have HP := Lib.hid ((hP.chg hc4 s1).mono (Nat.le_of_lt s1))
            have HBF := Lib.hid (hc4.below HB5.out (Nat.le_refl _) HB5.out.size)
            have z0 := box_cell HX4.out 0 (.slice none 0 0) rfl
            have z1 := box_cell HX4.out 1 (.slice none 0 0) rfl
            have z2 := box_cell HX4.out 2 (.slice none 0 0) rfl
            have z3 := box_cell HX4.out 3 (.int .i64 0) rfl
            have y0 := box_free HX4.out 0
            have y1 := box_free HX4.out 1
            have y2 := box_free HX4.out 2
            have y3 := box_free HX4.out 3
            have v0 := box_cell hx4 0 (.slice X n xc) rfl
            have v1 := box_cell hx4 1 (.slice R' n rc') rfl
            have v2 := box_cell hx4 2 (.slice C' m cc') rfl
            have v3 := box_cell hx4 3 (.int .i64 tt) rfl
            clear hx4 hc4 hP b5 htt c2 s1
            go_wp2
            exact bodyPost_ret (v := .tuple #[.agg #[.slice X n xc, .slice R' n rc', .slice C' m cc', .int .i64 tt], .bool true]) (by simp [results, Try.results8, go_sem, v0, v1, v2, v3]) rfl (by rw [← HME.out]; exact RetRndP.yes HY.out HTT.out HP.out HBF.out)
          case pos =>
            obtain ⟨ad', eA', Vx, cvx, p0, hvx⟩ := matR_row (HMW.out _ (Below.refl _ _)) hlt
            obtain rfl : ad = ad' := Option.some.inj eA'
            obtain ⟨av, rfl, _⟩ := vecR_at hvx (show 0 < m by omega)
            have HVX : Hid (∀ W, Below w1.heap.size w1 W → VecR W (some av) m (x k)) := Lib.hid (fun W hb => Ints.below hvx hb)
            have p1 := cellLater p0 HBw.out
            have HRq : Hid (rndRow b sd x k (rndRows b sd m x t0 k) 0 = some (s, ap)) := Lib.hid HRk.out
            clear hvx HRk p0 eA'
            go_wp2_with fail
            clear p1
            go_loopw [47] (fun iv wr => ∃ (q : Nat) (s : Net) (ap : Int) (f : Nat → Option Rw), q ≤ m ∧ iv = .int .i64 q ∧ Hid (rndRow b sd x k (rndRows b sd m x t0 k) q = some (s, ap)) ∧ Hid (RndI t0 (s, ap) k q m) ∧ Hid (wr.heap[T8]? = some (.cells #[.slice R (n + 1) rc, .slice C (m + 1) cc, .slice Lo (n + 1) lc, .slice Hi (n + 1) hc] 54 (0, 0))) ∧ Hid (wr.heap[T8 + 1]? = some (.cells #[.int .i64 sd, .int .i64 ap] 52 (0, 0))) ∧ Hid (NetW wr B f R C Lo Hi rc cc lc hc (n + 1) s) ∧ Hid (Below w1.heap.size w1 wr) ∧ Hid (T8 + 1 < wr.heap.size)) (fun iv _ => m - (intOf iv).toNat)
            case atStart => exact ⟨0, s, ap, f, Nat.zero_le _, rfl, HRq, HIk, H8, H9, HN, HBw, HS⟩
            case round =>
              clear HRq HIk H8 H9 HN HBw HS
              obtain ⟨q, s, ap, f, hq, rfl, HRq, HIq, H8, H9, HN, HBw, HS⟩ := hrel
              by_cases hlq : q < m
              case neg =>
                obtain rfl : m = q := by omega
                have HR2 : Hid (rndRows b sd m x t0 (k + 1) = some (s, ap)) := Lib.hid HRq.out
                have HI2 := Lib.hid (HIq.out.row (show 0 < m by omega))
                go_wp2
                go_roundw
                case rel => exact ⟨k + 1, s, ap, f, by omega, by go_num, HR2, HI2, H8, H9, HN, HBw, HS⟩
                case measure => simp [intOf]; omega
              case pos =>
                have HS1 : Hid (s.n = n + 1) := Lib.hid (HIq.out.sub.n.trans TNN.out)
                have HS2 : Hid (s.m = m + 1) := Lib.hid (HIq.out.sub.m.trans TMM.out)
                obtain ⟨av', eV, cx⟩ := vecR_at (HVX.out _ HBw.out) hlq
                obtain rfl : av = av' := Option.some.inj eV
                have c0 := box_cell H8.out 0 (.slice R (n + 1) rc) rfl
                have c1 := box_cell H8.out 1 (.slice C (m + 1) cc) rfl
                have c2 := box_cell H8.out 2 (.slice Lo (n + 1) lc) rfl
                have c3 := box_cell H8.out 3 (.slice Hi (n + 1) hc) rfl
                have hxv := HM.out.x k q hlt hlq
                have HXV := Lib.hid (rfl : x k q = x k q)
                obtain ⟨xv, hxv0⟩ : ∃ xv, Hid (xv = x k q) := ⟨_, Lib.hid rfl⟩
                rw [← hxv0.out] at cx hxv
                clear HXV eV
                have hapb : 0 ≤ ap ∧ ap ≤ 1000000 := ⟨HIq.out.a0, HIq.out.a1⟩
                go_wp2_with fail
                refine (cellRange_any (n + 1) (m + 1) k q R C Lo Hi rc cc lc hc s _ HS1.out HS2.out (by have h := HN.out; rw [← HS1.out] at h; exact h.read) HIq.out.sub.b (by omega) (by omega)).mono ?_
                rintro e w7 ⟨lo, hi, ok, rfl, ⟨hok1, hok2⟩, b7⟩
                have H8c := Lib.hid (box_below H8.out b7)
                have H9c := Lib.hid (box_below H9.out b7)
                have HNc := Lib.hid (HN.out.below b7)
                have HBc := Lib.hid (HBw.out.trans (b7.mono HBw.out.size))
                have HSc : Hid (T8 + 1 < w7.heap.size) := Lib.hid (Nat.lt_of_lt_of_le HS.out b7.size)
                have OK1 := Lib.hid hok1
                have OK2 := Lib.hid hok2
                clear b7 hok1 hok2 c0 c1 c2 c3 cx H8 H9 HN HBw HS
                cases ok
                case false =>
                  have hF : ¬ s.Feas := fun h => by have := OK1.out.2 h; cases this
                  have HNO : Hid (O = none) := Lib.hid (by rw [← HRo.out]; unfold rndO; rw [← HT0N.out, rnd_die hlt hlq HRq.out (rndStep_no hF)]; rfl)
                  have HRX := Lib.hid (box_below X0.out HBc.out)
                  have HBX := Lib.hid (B0.out.trans (HBc.out.mono B0.out.size))
                  clear hF
                  have z0 := box_cell HRX.out 0 (.slice none 0 0) rfl
                  have z1 := box_cell HRX.out 1 (.slice none 0 0) rfl
                  have z2 := box_cell HRX.out 2 (.slice none 0 0) rfl
                  have z3 := box_cell HRX.out 3 (.int .i64 0) rfl
                  have y0 := box_free HRX.out 0
                  have y1 := box_free HRX.out 1
                  have y2 := box_free HRX.out 2
                  have y3 := box_free HRX.out 3
                  have hx4 := box4 (a := .slice none 0 0) (b := .slice none 0 0) (c := .slice none 0 0) (d := .int .i64 0) HRX.out
                  have v0 := box_cell hx4 0 (.slice none 0 0) rfl
                  have v1 := box_cell hx4 1 (.slice none 0 0) rfl
                  have v2 := box_cell hx4 2 (.slice none 0 0) rfl
                  have v3 := box_cell hx4 3 (.int .i64 0) rfl
                  have HBZ := Lib.hid ((chg4 (g := w.heap.size) (a := .slice none 0 0) (b := .slice none 0 0) (c := .slice none 0 0) (d := .int .i64 0)).below HBX.out (Nat.le_refl _) HBX.out.size)
                  clear hx4
                  go_wp2
                  refine bodyPost_ret (v := .tuple #[.agg #[.slice none 0 0, .slice none 0 0, .slice none 0 0, .int .i64 0], .bool false]) (by simp [results, Try.results8, go_sem, v0, v1, v2, v3]) rfl (RetRndP.no HNO.out HBZ.out)
                case true =>
                  have hF := OK1.out.1 rfl
                  obtain ⟨hmin, hmax⟩ := OK2.out rfl
                  have hst := HIq.out
                  by_cases hll : lo < hi
                  case neg =>
                    have HRn := Lib.hid (rnd_one HRq.out (rndStep_one hF hmin hmax hll))
                    have HRi := Lib.hid (hst.step (show k < t0.n by rw [TNN.out]; omega) (show q < t0.m by rw [TMM.out]; omega) hlq hF hmin.at_ hapb.1 hapb.2)
                    clear hF hmin hmax hst OK1 OK2
                    go_wp2_with fail
                    obtain ⟨wd, HWd⟩ : ∃ wd, Hid (wd = w7.drew) := ⟨_, Lib.hid rfl⟩
                    have bdr := (Below.refl w7.heap.size w7).drew
                    have HNd : Hid (NetW wd B f R C Lo Hi rc cc lc hc (n + 1) s) := Lib.hid (by rw [HWd.out]; exact HNc.out.below bdr)
                    have H8d : Hid (wd.heap[T8]? = some (.cells #[.slice R (n + 1) rc, .slice C (m + 1) cc, .slice Lo (n + 1) lc, .slice Hi (n + 1) hc] 54 (0, 0))) := Lib.hid (by rw [HWd.out]; exact H8c.out)
                    have H9d : Hid (wd.heap[T8 + 1]? = some (.cells #[.int .i64 sd, .int .i64 ap] 52 (0, 0))) := Lib.hid (by rw [HWd.out]; exact H9c.out)
                    have HBd : Hid (Below w1.heap.size w1 wd) := Lib.hid (by rw [HWd.out]; exact HBc.out.drew)
                    have HSd : Hid (T8 + 1 < wd.heap.size) := Lib.hid (by rw [HWd.out]; exact HSc.out)
                    clear HNc H8c H9c HBc HSc bdr
                    have c2 := box_cell H8d.out 2 (.slice Lo (n + 1) lc) rfl
                    have c3 := box_cell H8d.out 3 (.slice Hi (n + 1) hc) rfl
                    have hsn : n + 1 ≤ s.n := by rw [HS1.out]; exact Nat.le_refl _
                    have hqm : q < s.m := by rw [HS2.out]; omega
                    obtain ⟨gE0, ge', cve', eE, k1e, _, _, _, _, _, _⟩ := HNd.out.cellHi hsn (show k < n + 1 by omega) hqm
                    obtain ⟨gA, gl, cvl, rfl, k1, k2, k3, k4, k5, k6, back⟩ := HNd.out.cellLo hsn (show k < n + 1 by omega) hqm
                    have hgAl : gA ≠ gl := k6.2
                    obtain ⟨f1, n1, _⟩ := back lo
                    have hgxl := k5 T8 _ _ H8d.out (by decide)
                    have hg9l := k5 (T8 + 1) _ _ H9d.out (by decide)
                    obtain ⟨gE, ge, cve, rfl, l1, l2, l3, l4, l5, l6, back2⟩ := n1.cellHi hsn (show k < n + 1 by omega) hqm
                    obtain rfl : gE = gE0 := congrArg Addr.block (Option.some.inj eE)
                    have hgEl := k6.1 gE rfl
                    replace l1 : (wd.setCell ⟨gl, q, none⟩ (.int .i64 lo)).cell? ⟨gE, k, none⟩ = some (.slice (some ⟨ge, 0, none⟩) (m + 1) cve) := by have h := l1; rw [show (s.setLo k q lo).m = m + 1 from HS2.out] at h; exact h
                    replace k1 : wd.cell? ⟨gA, k, none⟩ = some (.slice (some ⟨gl, 0, none⟩) (m + 1) cvl) := by have h := k1; rw [HS2.out] at h; exact h
                    have hE1 : wd.cell? ⟨gE, k, none⟩ = some (.slice (some ⟨ge, 0, none⟩) (m + 1) cve) := (World.cell?_of_block (Below.heap_setCell wd ⟨gl, q, none⟩ _ gE hgEl)).symm.trans l1
                    obtain ⟨f2, n2, _⟩ := back2 lo
                    have HN2 := Lib.hid (NetW.bound (by rw [HS1.out]; exact Nat.le_refl _) n2)
                    have hbx1 : (wd.setCell ⟨gl, q, none⟩ (.int .i64 lo)).heap[T8]? = wd.heap[T8]? := Below.heap_setCell wd ⟨gl, q, none⟩ _ T8 hgxl
                    have hbx9 : (wd.setCell ⟨gl, q, none⟩ (.int .i64 lo)).heap[T8 + 1]? = wd.heap[T8 + 1]? := Below.heap_setCell wd ⟨gl, q, none⟩ _ (T8 + 1) hg9l
                    have hgxe := l5 T8 _ _ (hbx1.trans H8d.out) (by decide)
                    have hg9e := l5 (T8 + 1) _ _ (hbx9.trans H9d.out) (by decide)
                    have H82 := Lib.hid ((Below.heap_setCell _ ⟨ge, q, none⟩ (.int .i64 lo) T8 hgxe).trans (hbx1.trans H8d.out))
                    have H92 := Lib.hid ((Below.heap_setCell _ ⟨ge, q, none⟩ (.int .i64 lo) (T8 + 1) hg9e).trans (hbx9.trans H9d.out))
                    have HB2 := Lib.hid ((HBd.out.setCell (p := ⟨gl, q, none⟩) (Nat.le_trans HBB.out k4) (.int .i64 lo)).setCell (p := ⟨ge, q, none⟩) (Nat.le_trans HBB.out l4) (.int .i64 lo))
                    have HS22 : Hid (T8 + 1 < ((wd.setCell ⟨gl, q, none⟩ (.int .i64 lo)).setCell ⟨ge, q, none⟩ (.int .i64 lo)).heap.size) := Lib.hid (by have := HSd.out; simpa using this)
                    obtain ⟨wd1, HWd1⟩ : ∃ wd1, Hid (wd1 = wd.setCell ⟨gl, q, none⟩ (.int .i64 lo)) := ⟨_, Lib.hid rfl⟩
                    rw [← HWd1.out] at l2 l3 HN2 H82 H92 HB2 HS22
                    have c2' : wd1.cell? ⟨T8, 2, none⟩ = some (.slice (some ⟨gA, 0, none⟩) (n + 1) lc) := by rw [HWd1.out]; exact (World.cell?_of_block (Below.heap_setCell wd ⟨gl, q, none⟩ _ T8 hgxl)).trans c2
                    have c3' : wd1.cell? ⟨T8, 3, none⟩ = some (.slice (some ⟨gE, 0, none⟩) (n + 1) hc) := by rw [HWd1.out]; exact (World.cell?_of_block (Below.heap_setCell wd ⟨gl, q, none⟩ _ T8 hgxl)).trans c3
                    have k1' : wd1.cell? ⟨gA, k, none⟩ = some (.slice (some ⟨gl, 0, none⟩) (m + 1) cvl) := by rw [HWd1.out]; exact (World.cell?_of_block (Below.heap_setCell wd ⟨gl, q, none⟩ _ gA hgAl)).trans k1
                    have hE1' : wd1.cell? ⟨gE, k, none⟩ = some (.slice (some ⟨ge, 0, none⟩) (m + 1) cve) := by rw [HWd1.out]; exact (World.cell?_of_block (Below.heap_setCell wd ⟨gl, q, none⟩ _ gE hgEl)).trans hE1
                    clear back back2 n1 n2 eE k1e l1 k4 k5 k6 l4 l5 l6 hbx1 hbx9 HNd H8d H9d HBd HSd hsn hqm
                    have hi1 : (k : Int) < (n : Int) + 1 := by omega
                    have hj1 : (q : Int) < (m : Int) + 1 := by omega
                    refine AnyE.region 17 (fun w' => w'.cell? ⟨T8, 2, none⟩ = some (.slice (some ⟨gA, 0, none⟩) (n + 1) lc) ∧ w'.cell? ⟨T8, 3, none⟩ = some (.slice (some ⟨gE, 0, none⟩) (n + 1) hc) ∧ w'.cell? ⟨gA, k, none⟩ = some (.slice (some ⟨gl, 0, none⟩) (m + 1) cvl) ∧ w'.cell? ⟨gE, k, none⟩ = some (.slice (some ⟨ge, 0, none⟩) (m + 1) cve)) (by kernel_rfl) (by rw [← HWd.out]; exact ⟨c2, c3, k1, hE1⟩) (fun hHeld => ?_)
                    rw [← HWd.out]
                    clear hHeld
                    have hHeld := And.intro c2 (And.intro c3 (And.intro k1 hE1))
                    refine AnyE.take (i := 0) (d := 83) (v := ?_) rfl (by kernel_rfl) (by kernel_rfl) (by kernel_rfl) (by kernel_rfl) (by kernel_rfl) (fun _ _ _ h => h) (Or.inl ⟨by rfl, ?_⟩) (by assumption) ?_
                    rotate_left
                    · (intro w hSw; obtain ⟨g1, g2, g3, g4⟩ := hSw; go_simp; try with_reducible rfl)
                    simp only [Act.put, List.setIfInBounds_toArray, List.set_cons_zero, List.set_cons_succ]
                    refine AnyE.take (i := 1) (d := 84) (v := ?_) rfl (by kernel_rfl) (by kernel_rfl) (by kernel_rfl) (by kernel_rfl) (by kernel_rfl) (fun _ _ _ h => h) (Or.inl ⟨by rfl, ?_⟩) (by assumption) ?_
                    rotate_left
                    · (intro w hSw; obtain ⟨g1, g2, g3, g4⟩ := hSw; go_simp; try with_reducible rfl)
                    simp only [Act.put, List.setIfInBounds_toArray, List.set_cons_zero, List.set_cons_succ]
                    refine AnyE.take (i := 2) (d := 85) (v := ?_) rfl (by kernel_rfl) (by kernel_rfl) (by kernel_rfl) (by kernel_rfl) (by kernel_rfl) (fun _ _ _ h => h) (Or.inl ⟨by rfl, ?_⟩) (by assumption) ?_
                    rotate_left
                    · (intro w hSw; obtain ⟨g1, g2, g3, g4⟩ := hSw; go_simp; try with_reducible rfl)
                    simp only [Act.put, List.setIfInBounds_toArray, List.set_cons_zero, List.set_cons_succ]
                    refine AnyE.take (i := 3) (d := 86) (v := ?_) rfl (by kernel_rfl) (by kernel_rfl) (by kernel_rfl) (by kernel_rfl) (by kernel_rfl) (fun _ _ _ h => h) (Or.inl ⟨by rfl, ?_⟩) (by assumption) ?_
                    rotate_left
                    · (intro w hSw; obtain ⟨g1, g2, g3, g4⟩ := hSw; go_simp; try with_reducible rfl)
                    simp only [Act.put, List.setIfInBounds_toArray, List.set_cons_zero, List.set_cons_succ]
                    refine AnyE.take (i := 4) (d := 87) (v := ?_) rfl (by kernel_rfl) (by kernel_rfl) (by kernel_rfl) (by kernel_rfl) (by kernel_rfl) (fun _ _ _ h => h) (Or.inl ⟨by rfl, ?_⟩) (by assumption) ?_
                    rotate_left
                    · (intro w hSw; obtain ⟨g1, g2, g3, g4⟩ := hSw; go_simp; try with_reducible rfl)
                    simp only [Act.put, List.setIfInBounds_toArray, List.set_cons_zero, List.set_cons_succ]
                    refine AnyE.take (i := 5) (d := 88) (v := ?_) rfl (by kernel_rfl) (by kernel_rfl) (by kernel_rfl) (by kernel_rfl) (by kernel_rfl) (fun _ _ _ h => h) (Or.inl ⟨by rfl, ?_⟩) (by assumption) ?_
                    rotate_left
                    · (intro w hSw; obtain ⟨g1, g2, g3, g4⟩ := hSw; go_simp; try with_reducible rfl)
                    simp only [Act.put, List.setIfInBounds_toArray, List.set_cons_zero, List.set_cons_succ]
                    refine AnyE.take (i := 6) (d := 89) (v := ?_) rfl (by kernel_rfl) (by kernel_rfl) (by kernel_rfl) (by kernel_rfl) (by kernel_rfl) (fun _ _ _ h => h) (Or.inl ⟨by rfl, ?_⟩) (by assumption) ?_
                    rotate_left
                    · (intro w hSw; obtain ⟨g1, g2, g3, g4⟩ := hSw; go_simp; try with_reducible rfl)
                    simp only [Act.put, List.setIfInBounds_toArray, List.set_cons_zero, List.set_cons_succ]
                    refine AnyE.take (i := 7) (d := 90) (v := ?_) rfl (by kernel_rfl) (by kernel_rfl) (by kernel_rfl) (by kernel_rfl) (by kernel_rfl) (fun _ _ _ h => h) (Or.inl ⟨by rfl, ?_⟩) (by assumption) ?_
                    rotate_left
                    · (intro w hSw; obtain ⟨g1, g2, g3, g4⟩ := hSw; go_simp; try with_reducible rfl)
                    simp only [Act.put, List.setIfInBounds_toArray, List.set_cons_zero, List.set_cons_succ]
                    refine AnyE.take (i := 8) (d := 91) (v := ?_) rfl (by kernel_rfl) (by kernel_rfl) (by kernel_rfl) (by kernel_rfl) (by kernel_rfl) (fun _ _ _ h => h) (Or.inl ⟨by rfl, ?_⟩) (by assumption) ?_
                    rotate_left
                    · (intro w hSw; obtain ⟨g1, g2, g3, g4⟩ := hSw; go_simp; try with_reducible rfl)
                    simp only [Act.put, List.setIfInBounds_toArray, List.set_cons_zero, List.set_cons_succ]
                    refine AnyE.take (i := 9) (d := 92) (v := ?_) rfl (by kernel_rfl) (by kernel_rfl) (by kernel_rfl) (by kernel_rfl) (by kernel_rfl) (fun _ _ _ h => h) (Or.inl ⟨by rfl, ?_⟩) (by assumption) ?_
                    rotate_left
                    · (intro w hSw; obtain ⟨g1, g2, g3, g4⟩ := hSw; go_simp; try with_reducible rfl)
                    simp only [Act.put, List.setIfInBounds_toArray, List.set_cons_zero, List.set_cons_succ]
                    refine AnyE.take (i := 10) (d := 93) (v := ?_) rfl (by kernel_rfl) (by kernel_rfl) (by kernel_rfl) (by kernel_rfl) (by kernel_rfl) (fun _ _ _ h => h) (Or.inl ⟨by rfl, ?_⟩) (by assumption) ?_
                    rotate_left
                    · (intro w hSw; obtain ⟨g1, g2, g3, g4⟩ := hSw; go_simp; try with_reducible rfl)
                    simp only [Act.put, List.setIfInBounds_toArray, List.set_cons_zero, List.set_cons_succ]
                    refine AnyE.take (i := 11) (d := 94) (v := ?_) rfl (by kernel_rfl) (by kernel_rfl) (by kernel_rfl) (by kernel_rfl) (by kernel_rfl) (fun _ _ _ h => h) (Or.inl ⟨by rfl, ?_⟩) (by assumption) ?_
                    rotate_left
                    · (intro w hSw; obtain ⟨g1, g2, g3, g4⟩ := hSw; go_simp; try with_reducible rfl)
                    simp only [Act.put, List.setIfInBounds_toArray, List.set_cons_zero, List.set_cons_succ]
                    refine AnyE.take (i := 12) (d := 95) (v := ?_) rfl (by kernel_rfl) (by kernel_rfl) (by kernel_rfl) (by kernel_rfl) (by kernel_rfl) (fun _ _ _ h => h) (Or.inl ⟨by rfl, ?_⟩) (by assumption) ?_
                    rotate_left
                    · (intro w hSw; obtain ⟨g1, g2, g3, g4⟩ := hSw; go_simp; try with_reducible rfl)
                    simp only [Act.put, List.setIfInBounds_toArray, List.set_cons_zero, List.set_cons_succ]
                    refine AnyE.take (i := 13) (d := 96) (v := ?_) rfl (by kernel_rfl) (by kernel_rfl) (by kernel_rfl) (by kernel_rfl) (by kernel_rfl) (fun _ _ _ h => h) (Or.inl ⟨by rfl, ?_⟩) (by assumption) ?_
                    rotate_left
                    · (intro w hSw; obtain ⟨g1, g2, g3, g4⟩ := hSw; go_simp; try with_reducible rfl)
                    simp only [Act.put, List.setIfInBounds_toArray, List.set_cons_zero, List.set_cons_succ]
                    refine AnyE.take (i := 14) (d := 97) (v := ?_) rfl (by kernel_rfl) (by kernel_rfl) (by kernel_rfl) (by kernel_rfl) (by kernel_rfl) (fun _ _ _ h => h) (Or.inl ⟨by rfl, ?_⟩) (by assumption) ?_
                    rotate_left
                    · (intro w hSw; clear hSw; go_simp; try with_reducible rfl)
                    simp only [Act.put, List.setIfInBounds_toArray, List.set_cons_zero, List.set_cons_succ]
                    refine AnyE.step (i := 15) (by kernel_rfl) (by rfl) rfl (fun K hK => ?_)
                    go_simp
                    rw [← HWd1.out]
                    refine hK.out _ _ ?_ (fun hHeld => ?_)
                    · exact ⟨c2', c3', k1', hE1'⟩
                    clear hK K
                    try simp only [Act.put, List.setIfInBounds_toArray, List.set_cons_zero, List.set_cons_succ]
                    refine AnyE.take (i := 16) (d := 98) (v := ?_) rfl (by kernel_rfl) (by kernel_rfl) (by kernel_rfl) (by kernel_rfl) (by kernel_rfl) (fun _ _ _ h => h) (Or.inl ⟨by rfl, ?_⟩) (by assumption) ?_
                    rotate_left
                    · (intro w hSw; clear hSw; go_simp; try with_reducible rfl)
                    simp only [Act.put, List.setIfInBounds_toArray, List.set_cons_zero, List.set_cons_succ]
                    refine AnyE.last (i := 17) (by kernel_rfl) rfl rfl (by kernel_rfl) (fun K hK => ?_)
                    go_simp
                    refine hK.out _ _ ?_
                    clear hK K
                    go_wp2
                    go_roundw
                    case rel => exact ⟨q + 1, _, ap, f2, by omega, by go_num, HRn, HRi, H82, H92, HN2, HB2, HS22⟩
                    case measure => simp [intOf]; omega
                  case pos =>
                    have hSt : streamB sd ap = true := by unfold streamB; rw [HSD.out, inR_yes hapb.1 hapb.2]; rfl
                    obtain ⟨RR, hRR⟩ : ∃ RR, belowM sd b ap = RR := ⟨_, rfl⟩
                    have HUN : Hid (uniR sd ap b = RR) := Lib.hid (by rw [uniR_3 hSt HBI.out]; exact hRR)
                    have e0 := box_cell H9c.out 0 (.int .i64 sd) rfl
                    have e1 := box_cell H9c.out 1 (.int .i64 ap) rfl
                    have HRR := Lib.hid hRR
                    have HF := Lib.hid hF
                    have HMin := Lib.hid hmin
                    have HMax := Lib.hid hmax
                    clear hSt hRR hF hmin hmax hst OK1 OK2
                    go_wp2_with fail
                    refine (implUniformBelow_law sd ap b _).mono ?_
                    rintro e w8 ⟨rfl, b8⟩
                    rw [HUN.out]
                    replace H8c := Lib.hid (box_below H8c.out b8)
                    replace H9c := Lib.hid (box_below H9c.out b8)
                    replace HNc := Lib.hid (HNc.out.below b8)
                    replace HBc := Lib.hid (HBc.out.trans (b8.mono HBc.out.size))
                    replace HSc : Hid (T8 + 1 < w8.heap.size) := Lib.hid (Nat.lt_of_lt_of_le HSc.out b8.size)
                    clear b8 e0 e1
                    have e0 := box_cell H9c.out 0 (.int .i64 sd) rfl
                    have e1 := box_cell H9c.out 1 (.int .i64 ap) rfl
                    have g0 := box_free H9c.out 0
                    have g1 := box_free H9c.out 1
                    cases RR with
                    | none =>
                      simp only [oV, oS, oA, oB]
                      have HNO : Hid (O = none) := Lib.hid (by rw [← HRo.out]; unfold rndO; rw [← HT0N.out, rnd_die hlt hlq HRq.out (by have h := rndStep_die (v := x k q) HF.out HMin.out HMax.out hll HRR.out; exact h)]; rfl)
                      have hc9 : Chg (T8 + 1) (T8 + 1 + 1) w8 ((w8.setCell ⟨T8 + 1, 0, none⟩ (.int .i64 0)).setCell ⟨T8 + 1, 1, none⟩ (.int .i64 0)) := ((Chg.refl _ _ w8).set (Nat.le_refl _) (by omega)).set (Nat.le_refl _) (by omega)
                      have hT1 : w1.heap.size ≤ T8 + 1 := by have h := HT8L.out; omega
                      have HBz := Lib.hid (hc9.below HBc.out hT1 HBc.out.size)
                      have HRX := Lib.hid (box_below X0.out HBz.out)
                      have HBX := Lib.hid (B0.out.trans (HBz.out.mono B0.out.size))
                      clear hc9
                      have z0 := box_cell HRX.out 0 (.slice none 0 0) rfl
                      have z1 := box_cell HRX.out 1 (.slice none 0 0) rfl
                      have z2 := box_cell HRX.out 2 (.slice none 0 0) rfl
                      have z3 := box_cell HRX.out 3 (.int .i64 0) rfl
                      have y0 := box_free HRX.out 0
                      have y1 := box_free HRX.out 1
                      have y2 := box_free HRX.out 2
                      have y3 := box_free HRX.out 3
                      have hx4 := box4 (a := .slice none 0 0) (b := .slice none 0 0) (c := .slice none 0 0) (d := .int .i64 0) HRX.out
                      have v0 := box_cell hx4 0 (.slice none 0 0) rfl
                      have v1 := box_cell hx4 1 (.slice none 0 0) rfl
                      have v2 := box_cell hx4 2 (.slice none 0 0) rfl
                      have v3 := box_cell hx4 3 (.int .i64 0) rfl
                      have HBZ := Lib.hid ((chg4 (g := w.heap.size) (a := .slice none 0 0) (b := .slice none 0 0) (c := .slice none 0 0) (d := .int .i64 0)).below HBX.out (Nat.le_refl _) HBX.out.size)
                      clear hx4
                      go_wp2
                      refine bodyPost_ret (v := .tuple #[.agg #[.slice none 0 0, .slice none 0 0, .slice none 0 0, .int .i64 0], .bool false]) (by simp [results, Try.results8, go_sem, v0, v1, v2, v3]) rfl (RetRndP.no HNO.out HBZ.out)
                    | some p =>
                      obtain ⟨u, a⟩ := p
                      simp only [oV, oS, oA, oB]
                      obtain ⟨hu0, hu1, ha0, ha1⟩ := belowM_bd HRR.out hapb.1 hapb.2
                      have hc9 : Chg (T8 + 1) (T8 + 1 + 1) w8 ((w8.setCell ⟨T8 + 1, 0, none⟩ (.int .i64 sd)).setCell ⟨T8 + 1, 1, none⟩ (.int .i64 a)) := ((Chg.refl _ _ w8).set (Nat.le_refl _) (by omega)).set (Nat.le_refl _) (by omega)
                      have hT1 : w1.heap.size ≤ T8 + 1 := by have h := HT8L.out; omega
                      have H9z : ((w8.setCell ⟨T8 + 1, 0, none⟩ (.int .i64 sd)).setCell ⟨T8 + 1, 1, none⟩ (.int .i64 a)).heap[T8 + 1]? = some (.cells #[.int .i64 sd, .int .i64 a] 52 (0, 0)) := box_set (box_set H9c.out 0 _) 1 _
                      have HNz := Lib.hid ((HNc.out.far H9c.out (by decide) (by decide)).far (box_set H9c.out 0 (.int .i64 sd)) (k := 1) (v := .int .i64 a) (by decide) (by decide))
                      replace H8c := Lib.hid (box_chg H8c.out hc9 (by omega))
                      replace HBc := Lib.hid (hc9.below HBc.out hT1 HBc.out.size)
                      replace HSc := Lib.hid (Nat.lt_of_lt_of_le HSc.out hc9.size)
                      clear hc9 HNc
                      replace H9c := Lib.hid H9z
                      have HNc := HNz
                      clear H9z HNz
                      obtain ⟨wq, HWq⟩ : ∃ wq, Hid (wq = (w8.setCell ⟨T8 + 1, 0, none⟩ (.int .i64 sd)).setCell ⟨T8 + 1, 1, none⟩ (.int .i64 a)) := ⟨_, Lib.hid rfl⟩
                      rw [← HWq.out] at H8c H9c HNc HBc HSc
                      have hbp : ¬ b = 0 := by omega
                      have hrem : 0 ≤ xv.tmod b ∧ xv.tmod b < b := ⟨Int.tmod_nonneg _ hxv.1, Int.tmod_lt_of_pos _ (by omega)⟩
                      obtain ⟨rm, hrm⟩ : ∃ rm, xv.tmod b = rm := ⟨_, rfl⟩
                      rw [hrm] at hrem
                      have W5 : IntKind.i64.wrap rm = rm := IntWalk.i64_in _ ⟨by omega, by omega⟩
                      have HRM : Hid ((x k q).tmod b = rm) := Lib.hid (by rw [← hxv0.out]; exact hrm)
                      by_cases hu : u < rm
                      case neg =>
                        have hch : (if u < (x k q).tmod b then hi else lo) = lo := by rw [HRM.out, if_neg hu]
                        have hss := rndStep_two (v := x k q) HF.out HMin.out HMax.out hll HRR.out
                        rw [hch] at hss
                        have HRn := Lib.hid (rnd_one HRq.out hss)
                        have HRi := Lib.hid (HIq.out.step (show k < t0.n by rw [TNN.out]; omega) (show q < t0.m by rw [TMM.out]; omega) hlq HF.out HMin.out.at_ ha0 ha1)
                        clear hss hch HF HMin HMax
                        go_wp2_with fail
                        rw [← HWq.out]
                        clear e0 e1 g0 g1
                        obtain ⟨wd, HWd⟩ : ∃ wd, Hid (wd = wq.drew) := ⟨_, Lib.hid rfl⟩
                        have bdr := (Below.refl wq.heap.size wq).drew
                        have HNd : Hid (NetW wd B f R C Lo Hi rc cc lc hc (n + 1) s) := Lib.hid (by rw [HWd.out]; exact HNc.out.below bdr)
                        have H8d : Hid (wd.heap[T8]? = some (.cells #[.slice R (n + 1) rc, .slice C (m + 1) cc, .slice Lo (n + 1) lc, .slice Hi (n + 1) hc] 54 (0, 0))) := Lib.hid (by rw [HWd.out]; exact H8c.out)
                        have H9d : Hid (wd.heap[T8 + 1]? = some (.cells #[.int .i64 sd, .int .i64 a] 52 (0, 0))) := Lib.hid (by rw [HWd.out]; exact H9c.out)
                        have HBd : Hid (Below w1.heap.size w1 wd) := Lib.hid (by rw [HWd.out]; exact HBc.out.drew)
                        have HSd : Hid (T8 + 1 < wd.heap.size) := Lib.hid (by rw [HWd.out]; exact HSc.out)
                        clear HNc H8c H9c HBc HSc bdr
                        have c2 := box_cell H8d.out 2 (.slice Lo (n + 1) lc) rfl
                        have c3 := box_cell H8d.out 3 (.slice Hi (n + 1) hc) rfl
                        have hsn : n + 1 ≤ s.n := by rw [HS1.out]; exact Nat.le_refl _
                        have hqm : q < s.m := by rw [HS2.out]; omega
                        obtain ⟨gE0, ge', cve', eE, k1e, _, _, _, _, _, _⟩ := HNd.out.cellHi hsn (show k < n + 1 by omega) hqm
                        obtain ⟨gA, gl, cvl, rfl, k1, k2, k3, k4, k5, k6, back⟩ := HNd.out.cellLo hsn (show k < n + 1 by omega) hqm
                        have hgAl : gA ≠ gl := k6.2
                        obtain ⟨f1, n1, _⟩ := back lo
                        have hgxl := k5 T8 _ _ H8d.out (by decide)
                        have hg9l := k5 (T8 + 1) _ _ H9d.out (by decide)
                        obtain ⟨gE, ge, cve, rfl, l1, l2, l3, l4, l5, l6, back2⟩ := n1.cellHi hsn (show k < n + 1 by omega) hqm
                        obtain rfl : gE = gE0 := congrArg Addr.block (Option.some.inj eE)
                        have hgEl := k6.1 gE rfl
                        replace l1 : (wd.setCell ⟨gl, q, none⟩ (.int .i64 lo)).cell? ⟨gE, k, none⟩ = some (.slice (some ⟨ge, 0, none⟩) (m + 1) cve) := by have h := l1; rw [show (s.setLo k q lo).m = m + 1 from HS2.out] at h; exact h
                        replace k1 : wd.cell? ⟨gA, k, none⟩ = some (.slice (some ⟨gl, 0, none⟩) (m + 1) cvl) := by have h := k1; rw [HS2.out] at h; exact h
                        have hE1 : wd.cell? ⟨gE, k, none⟩ = some (.slice (some ⟨ge, 0, none⟩) (m + 1) cve) := (World.cell?_of_block (Below.heap_setCell wd ⟨gl, q, none⟩ _ gE hgEl)).symm.trans l1
                        obtain ⟨f2, n2, _⟩ := back2 lo
                        have HN2 := Lib.hid (NetW.bound (by rw [HS1.out]; exact Nat.le_refl _) n2)
                        have hbx1 : (wd.setCell ⟨gl, q, none⟩ (.int .i64 lo)).heap[T8]? = wd.heap[T8]? := Below.heap_setCell wd ⟨gl, q, none⟩ _ T8 hgxl
                        have hbx9 : (wd.setCell ⟨gl, q, none⟩ (.int .i64 lo)).heap[T8 + 1]? = wd.heap[T8 + 1]? := Below.heap_setCell wd ⟨gl, q, none⟩ _ (T8 + 1) hg9l
                        have hgxe := l5 T8 _ _ (hbx1.trans H8d.out) (by decide)
                        have hg9e := l5 (T8 + 1) _ _ (hbx9.trans H9d.out) (by decide)
                        have H82 := Lib.hid ((Below.heap_setCell _ ⟨ge, q, none⟩ (.int .i64 lo) T8 hgxe).trans (hbx1.trans H8d.out))
                        have H92 := Lib.hid ((Below.heap_setCell _ ⟨ge, q, none⟩ (.int .i64 lo) (T8 + 1) hg9e).trans (hbx9.trans H9d.out))
                        have HB2 := Lib.hid ((HBd.out.setCell (p := ⟨gl, q, none⟩) (Nat.le_trans HBB.out k4) (.int .i64 lo)).setCell (p := ⟨ge, q, none⟩) (Nat.le_trans HBB.out l4) (.int .i64 lo))
                        have HS22 : Hid (T8 + 1 < ((wd.setCell ⟨gl, q, none⟩ (.int .i64 lo)).setCell ⟨ge, q, none⟩ (.int .i64 lo)).heap.size) := Lib.hid (by have := HSd.out; simpa using this)
                        obtain ⟨wd1, HWd1⟩ : ∃ wd1, Hid (wd1 = wd.setCell ⟨gl, q, none⟩ (.int .i64 lo)) := ⟨_, Lib.hid rfl⟩
                        rw [← HWd1.out] at l2 l3 HN2 H82 H92 HB2 HS22
                        have c2' : wd1.cell? ⟨T8, 2, none⟩ = some (.slice (some ⟨gA, 0, none⟩) (n + 1) lc) := by rw [HWd1.out]; exact (World.cell?_of_block (Below.heap_setCell wd ⟨gl, q, none⟩ _ T8 hgxl)).trans c2
                        have c3' : wd1.cell? ⟨T8, 3, none⟩ = some (.slice (some ⟨gE, 0, none⟩) (n + 1) hc) := by rw [HWd1.out]; exact (World.cell?_of_block (Below.heap_setCell wd ⟨gl, q, none⟩ _ T8 hgxl)).trans c3
                        have k1' : wd1.cell? ⟨gA, k, none⟩ = some (.slice (some ⟨gl, 0, none⟩) (m + 1) cvl) := by rw [HWd1.out]; exact (World.cell?_of_block (Below.heap_setCell wd ⟨gl, q, none⟩ _ gA hgAl)).trans k1
                        have hE1' : wd1.cell? ⟨gE, k, none⟩ = some (.slice (some ⟨ge, 0, none⟩) (m + 1) cve) := by rw [HWd1.out]; exact (World.cell?_of_block (Below.heap_setCell wd ⟨gl, q, none⟩ _ gE hgEl)).trans hE1
                        clear back back2 n1 n2 eE k1e l1 k4 k5 k6 l4 l5 l6 hbx1 hbx9 HNd H8d H9d HBd HSd hsn hqm
                        have hi1 : (k : Int) < (n : Int) + 1 := by omega
                        have hj1 : (q : Int) < (m : Int) + 1 := by omega
                        refine AnyE.region 17 (fun w' => w'.cell? ⟨T8, 2, none⟩ = some (.slice (some ⟨gA, 0, none⟩) (n + 1) lc) ∧ w'.cell? ⟨T8, 3, none⟩ = some (.slice (some ⟨gE, 0, none⟩) (n + 1) hc) ∧ w'.cell? ⟨gA, k, none⟩ = some (.slice (some ⟨gl, 0, none⟩) (m + 1) cvl) ∧ w'.cell? ⟨gE, k, none⟩ = some (.slice (some ⟨ge, 0, none⟩) (m + 1) cve)) (by kernel_rfl) (by rw [← HWd.out]; exact ⟨c2, c3, k1, hE1⟩) (fun hHeld => ?_)
                        rw [← HWd.out]
                        clear hHeld
                        have hHeld := And.intro c2 (And.intro c3 (And.intro k1 hE1))
                        refine AnyE.take (i := 0) (d := 83) (v := ?_) rfl (by kernel_rfl) (by kernel_rfl) (by kernel_rfl) (by kernel_rfl) (by kernel_rfl) (fun _ _ _ h => h) (Or.inl ⟨by rfl, ?_⟩) (by assumption) ?_
                        rotate_left
                        · (intro w hSw; obtain ⟨g1, g2, g3, g4⟩ := hSw; go_simp; try with_reducible rfl)
                        simp only [Act.put, List.setIfInBounds_toArray, List.set_cons_zero, List.set_cons_succ]
                        refine AnyE.take (i := 1) (d := 84) (v := ?_) rfl (by kernel_rfl) (by kernel_rfl) (by kernel_rfl) (by kernel_rfl) (by kernel_rfl) (fun _ _ _ h => h) (Or.inl ⟨by rfl, ?_⟩) (by assumption) ?_
                        rotate_left
                        · (intro w hSw; obtain ⟨g1, g2, g3, g4⟩ := hSw; go_simp; try with_reducible rfl)
                        simp only [Act.put, List.setIfInBounds_toArray, List.set_cons_zero, List.set_cons_succ]
                        refine AnyE.take (i := 2) (d := 85) (v := ?_) rfl (by kernel_rfl) (by kernel_rfl) (by kernel_rfl) (by kernel_rfl) (by kernel_rfl) (fun _ _ _ h => h) (Or.inl ⟨by rfl, ?_⟩) (by assumption) ?_
                        rotate_left
                        · (intro w hSw; obtain ⟨g1, g2, g3, g4⟩ := hSw; go_simp; try with_reducible rfl)
                        simp only [Act.put, List.setIfInBounds_toArray, List.set_cons_zero, List.set_cons_succ]
                        refine AnyE.take (i := 3) (d := 86) (v := ?_) rfl (by kernel_rfl) (by kernel_rfl) (by kernel_rfl) (by kernel_rfl) (by kernel_rfl) (fun _ _ _ h => h) (Or.inl ⟨by rfl, ?_⟩) (by assumption) ?_
                        rotate_left
                        · (intro w hSw; obtain ⟨g1, g2, g3, g4⟩ := hSw; go_simp; try with_reducible rfl)
                        simp only [Act.put, List.setIfInBounds_toArray, List.set_cons_zero, List.set_cons_succ]
                        refine AnyE.take (i := 4) (d := 87) (v := ?_) rfl (by kernel_rfl) (by kernel_rfl) (by kernel_rfl) (by kernel_rfl) (by kernel_rfl) (fun _ _ _ h => h) (Or.inl ⟨by rfl, ?_⟩) (by assumption) ?_
                        rotate_left
                        · (intro w hSw; obtain ⟨g1, g2, g3, g4⟩ := hSw; go_simp; try with_reducible rfl)
                        simp only [Act.put, List.setIfInBounds_toArray, List.set_cons_zero, List.set_cons_succ]
                        refine AnyE.take (i := 5) (d := 88) (v := ?_) rfl (by kernel_rfl) (by kernel_rfl) (by kernel_rfl) (by kernel_rfl) (by kernel_rfl) (fun _ _ _ h => h) (Or.inl ⟨by rfl, ?_⟩) (by assumption) ?_
                        rotate_left
                        · (intro w hSw; obtain ⟨g1, g2, g3, g4⟩ := hSw; go_simp; try with_reducible rfl)
                        simp only [Act.put, List.setIfInBounds_toArray, List.set_cons_zero, List.set_cons_succ]
                        refine AnyE.take (i := 6) (d := 89) (v := ?_) rfl (by kernel_rfl) (by kernel_rfl) (by kernel_rfl) (by kernel_rfl) (by kernel_rfl) (fun _ _ _ h => h) (Or.inl ⟨by rfl, ?_⟩) (by assumption) ?_
                        rotate_left
                        · (intro w hSw; obtain ⟨g1, g2, g3, g4⟩ := hSw; go_simp; try with_reducible rfl)
                        simp only [Act.put, List.setIfInBounds_toArray, List.set_cons_zero, List.set_cons_succ]
                        refine AnyE.take (i := 7) (d := 90) (v := ?_) rfl (by kernel_rfl) (by kernel_rfl) (by kernel_rfl) (by kernel_rfl) (by kernel_rfl) (fun _ _ _ h => h) (Or.inl ⟨by rfl, ?_⟩) (by assumption) ?_
                        rotate_left
                        · (intro w hSw; obtain ⟨g1, g2, g3, g4⟩ := hSw; go_simp; try with_reducible rfl)
                        simp only [Act.put, List.setIfInBounds_toArray, List.set_cons_zero, List.set_cons_succ]
                        refine AnyE.take (i := 8) (d := 91) (v := ?_) rfl (by kernel_rfl) (by kernel_rfl) (by kernel_rfl) (by kernel_rfl) (by kernel_rfl) (fun _ _ _ h => h) (Or.inl ⟨by rfl, ?_⟩) (by assumption) ?_
                        rotate_left
                        · (intro w hSw; obtain ⟨g1, g2, g3, g4⟩ := hSw; go_simp; try with_reducible rfl)
                        simp only [Act.put, List.setIfInBounds_toArray, List.set_cons_zero, List.set_cons_succ]
                        refine AnyE.take (i := 9) (d := 92) (v := ?_) rfl (by kernel_rfl) (by kernel_rfl) (by kernel_rfl) (by kernel_rfl) (by kernel_rfl) (fun _ _ _ h => h) (Or.inl ⟨by rfl, ?_⟩) (by assumption) ?_
                        rotate_left
                        · (intro w hSw; obtain ⟨g1, g2, g3, g4⟩ := hSw; go_simp; try with_reducible rfl)
                        simp only [Act.put, List.setIfInBounds_toArray, List.set_cons_zero, List.set_cons_succ]
                        refine AnyE.take (i := 10) (d := 93) (v := ?_) rfl (by kernel_rfl) (by kernel_rfl) (by kernel_rfl) (by kernel_rfl) (by kernel_rfl) (fun _ _ _ h => h) (Or.inl ⟨by rfl, ?_⟩) (by assumption) ?_
                        rotate_left
                        · (intro w hSw; obtain ⟨g1, g2, g3, g4⟩ := hSw; go_simp; try with_reducible rfl)
                        simp only [Act.put, List.setIfInBounds_toArray, List.set_cons_zero, List.set_cons_succ]
                        refine AnyE.take (i := 11) (d := 94) (v := ?_) rfl (by kernel_rfl) (by kernel_rfl) (by kernel_rfl) (by kernel_rfl) (by kernel_rfl) (fun _ _ _ h => h) (Or.inl ⟨by rfl, ?_⟩) (by assumption) ?_
                        rotate_left
                        · (intro w hSw; obtain ⟨g1, g2, g3, g4⟩ := hSw; go_simp; try with_reducible rfl)
                        simp only [Act.put, List.setIfInBounds_toArray, List.set_cons_zero, List.set_cons_succ]
                        refine AnyE.take (i := 12) (d := 95) (v := ?_) rfl (by kernel_rfl) (by kernel_rfl) (by kernel_rfl) (by kernel_rfl) (by kernel_rfl) (fun _ _ _ h => h) (Or.inl ⟨by rfl, ?_⟩) (by assumption) ?_
                        rotate_left
                        · (intro w hSw; obtain ⟨g1, g2, g3, g4⟩ := hSw; go_simp; try with_reducible rfl)
                        simp only [Act.put, List.setIfInBounds_toArray, List.set_cons_zero, List.set_cons_succ]
                        refine AnyE.take (i := 13) (d := 96) (v := ?_) rfl (by kernel_rfl) (by kernel_rfl) (by kernel_rfl) (by kernel_rfl) (by kernel_rfl) (fun _ _ _ h => h) (Or.inl ⟨by rfl, ?_⟩) (by assumption) ?_
                        rotate_left
                        · (intro w hSw; obtain ⟨g1, g2, g3, g4⟩ := hSw; go_simp; try with_reducible rfl)
                        simp only [Act.put, List.setIfInBounds_toArray, List.set_cons_zero, List.set_cons_succ]
                        refine AnyE.take (i := 14) (d := 97) (v := ?_) rfl (by kernel_rfl) (by kernel_rfl) (by kernel_rfl) (by kernel_rfl) (by kernel_rfl) (fun _ _ _ h => h) (Or.inl ⟨by rfl, ?_⟩) (by assumption) ?_
                        rotate_left
                        · (intro w hSw; clear hSw; go_simp; try with_reducible rfl)
                        simp only [Act.put, List.setIfInBounds_toArray, List.set_cons_zero, List.set_cons_succ]
                        refine AnyE.step (i := 15) (by kernel_rfl) (by rfl) rfl (fun K hK => ?_)
                        go_simp
                        rw [← HWd1.out]
                        refine hK.out _ _ ?_ (fun hHeld => ?_)
                        · exact ⟨c2', c3', k1', hE1'⟩
                        clear hK K
                        try simp only [Act.put, List.setIfInBounds_toArray, List.set_cons_zero, List.set_cons_succ]
                        refine AnyE.take (i := 16) (d := 98) (v := ?_) rfl (by kernel_rfl) (by kernel_rfl) (by kernel_rfl) (by kernel_rfl) (by kernel_rfl) (fun _ _ _ h => h) (Or.inl ⟨by rfl, ?_⟩) (by assumption) ?_
                        rotate_left
                        · (intro w hSw; clear hSw; go_simp; try with_reducible rfl)
                        simp only [Act.put, List.setIfInBounds_toArray, List.set_cons_zero, List.set_cons_succ]
                        refine AnyE.last (i := 17) (by kernel_rfl) rfl rfl (by kernel_rfl) (fun K hK => ?_)
                        go_simp
                        refine hK.out _ _ ?_
                        clear hK K
                        go_wp2
                        go_roundw
                        case rel => exact ⟨q + 1, _, a, f2, by omega, by go_num, HRn, HRi, H82, H92, HN2, HB2, HS22⟩
                        case measure => simp [intOf]; omega
                      case pos =>
                        have hch : (if u < (x k q).tmod b then hi else lo) = hi := by rw [HRM.out, if_pos hu]
                        have hss := rndStep_two (v := x k q) HF.out HMin.out HMax.out hll HRR.out
                        rw [hch] at hss
                        have HRn := Lib.hid (rnd_one HRq.out hss)
                        have HRi := Lib.hid (HIq.out.step (show k < t0.n by rw [TNN.out]; omega) (show q < t0.m by rw [TMM.out]; omega) hlq HF.out HMax.out.at_ ha0 ha1)
                        clear hss hch HF HMin HMax
                        go_wp2_with fail
                        rw [← HWq.out]
                        clear e0 e1 g0 g1
                        obtain ⟨wd, HWd⟩ : ∃ wd, Hid (wd = wq.drew) := ⟨_, Lib.hid rfl⟩
                        have bdr := (Below.refl wq.heap.size wq).drew
                        have HNd : Hid (NetW wd B f R C Lo Hi rc cc lc hc (n + 1) s) := Lib.hid (by rw [HWd.out]; exact HNc.out.below bdr)
                        have H8d : Hid (wd.heap[T8]? = some (.cells #[.slice R (n + 1) rc, .slice C (m + 1) cc, .slice Lo (n + 1) lc, .slice Hi (n + 1) hc] 54 (0, 0))) := Lib.hid (by rw [HWd.out]; exact H8c.out)
                        have H9d : Hid (wd.heap[T8 + 1]? = some (.cells #[.int .i64 sd, .int .i64 a] 52 (0, 0))) := Lib.hid (by rw [HWd.out]; exact H9c.out)
                        have HBd : Hid (Below w1.heap.size w1 wd) := Lib.hid (by rw [HWd.out]; exact HBc.out.drew)
                        have HSd : Hid (T8 + 1 < wd.heap.size) := Lib.hid (by rw [HWd.out]; exact HSc.out)
                        clear HNc H8c H9c HBc HSc bdr
                        have c2 := box_cell H8d.out 2 (.slice Lo (n + 1) lc) rfl
                        have c3 := box_cell H8d.out 3 (.slice Hi (n + 1) hc) rfl
                        have hsn : n + 1 ≤ s.n := by rw [HS1.out]; exact Nat.le_refl _
                        have hqm : q < s.m := by rw [HS2.out]; omega
                        obtain ⟨gE0, ge', cve', eE, k1e, _, _, _, _, _, _⟩ := HNd.out.cellHi hsn (show k < n + 1 by omega) hqm
                        obtain ⟨gA, gl, cvl, rfl, k1, k2, k3, k4, k5, k6, back⟩ := HNd.out.cellLo hsn (show k < n + 1 by omega) hqm
                        have hgAl : gA ≠ gl := k6.2
                        obtain ⟨f1, n1, _⟩ := back hi
                        have hgxl := k5 T8 _ _ H8d.out (by decide)
                        have hg9l := k5 (T8 + 1) _ _ H9d.out (by decide)
                        obtain ⟨gE, ge, cve, rfl, l1, l2, l3, l4, l5, l6, back2⟩ := n1.cellHi hsn (show k < n + 1 by omega) hqm
                        obtain rfl : gE = gE0 := congrArg Addr.block (Option.some.inj eE)
                        have hgEl := k6.1 gE rfl
                        replace l1 : (wd.setCell ⟨gl, q, none⟩ (.int .i64 hi)).cell? ⟨gE, k, none⟩ = some (.slice (some ⟨ge, 0, none⟩) (m + 1) cve) := by have h := l1; rw [show (s.setLo k q hi).m = m + 1 from HS2.out] at h; exact h
                        replace k1 : wd.cell? ⟨gA, k, none⟩ = some (.slice (some ⟨gl, 0, none⟩) (m + 1) cvl) := by have h := k1; rw [HS2.out] at h; exact h
                        have hE1 : wd.cell? ⟨gE, k, none⟩ = some (.slice (some ⟨ge, 0, none⟩) (m + 1) cve) := (World.cell?_of_block (Below.heap_setCell wd ⟨gl, q, none⟩ _ gE hgEl)).symm.trans l1
                        obtain ⟨f2, n2, _⟩ := back2 hi
                        have HN2 := Lib.hid (NetW.bound (by rw [HS1.out]; exact Nat.le_refl _) n2)
                        have hbx1 : (wd.setCell ⟨gl, q, none⟩ (.int .i64 hi)).heap[T8]? = wd.heap[T8]? := Below.heap_setCell wd ⟨gl, q, none⟩ _ T8 hgxl
                        have hbx9 : (wd.setCell ⟨gl, q, none⟩ (.int .i64 hi)).heap[T8 + 1]? = wd.heap[T8 + 1]? := Below.heap_setCell wd ⟨gl, q, none⟩ _ (T8 + 1) hg9l
                        have hgxe := l5 T8 _ _ (hbx1.trans H8d.out) (by decide)
                        have hg9e := l5 (T8 + 1) _ _ (hbx9.trans H9d.out) (by decide)
                        have H82 := Lib.hid ((Below.heap_setCell _ ⟨ge, q, none⟩ (.int .i64 hi) T8 hgxe).trans (hbx1.trans H8d.out))
                        have H92 := Lib.hid ((Below.heap_setCell _ ⟨ge, q, none⟩ (.int .i64 hi) (T8 + 1) hg9e).trans (hbx9.trans H9d.out))
                        have HB2 := Lib.hid ((HBd.out.setCell (p := ⟨gl, q, none⟩) (Nat.le_trans HBB.out k4) (.int .i64 hi)).setCell (p := ⟨ge, q, none⟩) (Nat.le_trans HBB.out l4) (.int .i64 hi))
                        have HS22 : Hid (T8 + 1 < ((wd.setCell ⟨gl, q, none⟩ (.int .i64 hi)).setCell ⟨ge, q, none⟩ (.int .i64 hi)).heap.size) := Lib.hid (by have := HSd.out; simpa using this)
                        obtain ⟨wd1, HWd1⟩ : ∃ wd1, Hid (wd1 = wd.setCell ⟨gl, q, none⟩ (.int .i64 hi)) := ⟨_, Lib.hid rfl⟩
                        rw [← HWd1.out] at l2 l3 HN2 H82 H92 HB2 HS22
                        have c2' : wd1.cell? ⟨T8, 2, none⟩ = some (.slice (some ⟨gA, 0, none⟩) (n + 1) lc) := by rw [HWd1.out]; exact (World.cell?_of_block (Below.heap_setCell wd ⟨gl, q, none⟩ _ T8 hgxl)).trans c2
                        have c3' : wd1.cell? ⟨T8, 3, none⟩ = some (.slice (some ⟨gE, 0, none⟩) (n + 1) hc) := by rw [HWd1.out]; exact (World.cell?_of_block (Below.heap_setCell wd ⟨gl, q, none⟩ _ T8 hgxl)).trans c3
                        have k1' : wd1.cell? ⟨gA, k, none⟩ = some (.slice (some ⟨gl, 0, none⟩) (m + 1) cvl) := by rw [HWd1.out]; exact (World.cell?_of_block (Below.heap_setCell wd ⟨gl, q, none⟩ _ gA hgAl)).trans k1
                        have hE1' : wd1.cell? ⟨gE, k, none⟩ = some (.slice (some ⟨ge, 0, none⟩) (m + 1) cve) := by rw [HWd1.out]; exact (World.cell?_of_block (Below.heap_setCell wd ⟨gl, q, none⟩ _ gE hgEl)).trans hE1
                        clear back back2 n1 n2 eE k1e l1 k4 k5 k6 l4 l5 l6 hbx1 hbx9 HNd H8d H9d HBd HSd hsn hqm
                        have hi1 : (k : Int) < (n : Int) + 1 := by omega
                        have hj1 : (q : Int) < (m : Int) + 1 := by omega
                        refine AnyE.region 17 (fun w' => w'.cell? ⟨T8, 2, none⟩ = some (.slice (some ⟨gA, 0, none⟩) (n + 1) lc) ∧ w'.cell? ⟨T8, 3, none⟩ = some (.slice (some ⟨gE, 0, none⟩) (n + 1) hc) ∧ w'.cell? ⟨gA, k, none⟩ = some (.slice (some ⟨gl, 0, none⟩) (m + 1) cvl) ∧ w'.cell? ⟨gE, k, none⟩ = some (.slice (some ⟨ge, 0, none⟩) (m + 1) cve)) (by kernel_rfl) (by rw [← HWd.out]; exact ⟨c2, c3, k1, hE1⟩) (fun hHeld => ?_)
                        rw [← HWd.out]
                        clear hHeld
                        have hHeld := And.intro c2 (And.intro c3 (And.intro k1 hE1))
                        refine AnyE.take (i := 0) (d := 83) (v := ?_) rfl (by kernel_rfl) (by kernel_rfl) (by kernel_rfl) (by kernel_rfl) (by kernel_rfl) (fun _ _ _ h => h) (Or.inl ⟨by rfl, ?_⟩) (by assumption) ?_
                        rotate_left
                        · (intro w hSw; obtain ⟨g1, g2, g3, g4⟩ := hSw; go_simp; try with_reducible rfl)
                        simp only [Act.put, List.setIfInBounds_toArray, List.set_cons_zero, List.set_cons_succ]
                        refine AnyE.take (i := 1) (d := 84) (v := ?_) rfl (by kernel_rfl) (by kernel_rfl) (by kernel_rfl) (by kernel_rfl) (by kernel_rfl) (fun _ _ _ h => h) (Or.inl ⟨by rfl, ?_⟩) (by assumption) ?_
                        rotate_left
                        · (intro w hSw; obtain ⟨g1, g2, g3, g4⟩ := hSw; go_simp; try with_reducible rfl)
                        simp only [Act.put, List.setIfInBounds_toArray, List.set_cons_zero, List.set_cons_succ]
                        refine AnyE.take (i := 2) (d := 85) (v := ?_) rfl (by kernel_rfl) (by kernel_rfl) (by kernel_rfl) (by kernel_rfl) (by kernel_rfl) (fun _ _ _ h => h) (Or.inl ⟨by rfl, ?_⟩) (by assumption) ?_
                        rotate_left
                        · (intro w hSw; obtain ⟨g1, g2, g3, g4⟩ := hSw; go_simp; try with_reducible rfl)
                        simp only [Act.put, List.setIfInBounds_toArray, List.set_cons_zero, List.set_cons_succ]
                        refine AnyE.take (i := 3) (d := 86) (v := ?_) rfl (by kernel_rfl) (by kernel_rfl) (by kernel_rfl) (by kernel_rfl) (by kernel_rfl) (fun _ _ _ h => h) (Or.inl ⟨by rfl, ?_⟩) (by assumption) ?_
                        rotate_left
                        · (intro w hSw; obtain ⟨g1, g2, g3, g4⟩ := hSw; go_simp; try with_reducible rfl)
                        simp only [Act.put, List.setIfInBounds_toArray, List.set_cons_zero, List.set_cons_succ]
                        refine AnyE.take (i := 4) (d := 87) (v := ?_) rfl (by kernel_rfl) (by kernel_rfl) (by kernel_rfl) (by kernel_rfl) (by kernel_rfl) (fun _ _ _ h => h) (Or.inl ⟨by rfl, ?_⟩) (by assumption) ?_
                        rotate_left
                        · (intro w hSw; obtain ⟨g1, g2, g3, g4⟩ := hSw; go_simp; try with_reducible rfl)
                        simp only [Act.put, List.setIfInBounds_toArray, List.set_cons_zero, List.set_cons_succ]
                        refine AnyE.take (i := 5) (d := 88) (v := ?_) rfl (by kernel_rfl) (by kernel_rfl) (by kernel_rfl) (by kernel_rfl) (by kernel_rfl) (fun _ _ _ h => h) (Or.inl ⟨by rfl, ?_⟩) (by assumption) ?_
                        rotate_left
                        · (intro w hSw; obtain ⟨g1, g2, g3, g4⟩ := hSw; go_simp; try with_reducible rfl)
                        simp only [Act.put, List.setIfInBounds_toArray, List.set_cons_zero, List.set_cons_succ]
                        refine AnyE.take (i := 6) (d := 89) (v := ?_) rfl (by kernel_rfl) (by kernel_rfl) (by kernel_rfl) (by kernel_rfl) (by kernel_rfl) (fun _ _ _ h => h) (Or.inl ⟨by rfl, ?_⟩) (by assumption) ?_
                        rotate_left
                        · (intro w hSw; obtain ⟨g1, g2, g3, g4⟩ := hSw; go_simp; try with_reducible rfl)
                        simp only [Act.put, List.setIfInBounds_toArray, List.set_cons_zero, List.set_cons_succ]
                        refine AnyE.take (i := 7) (d := 90) (v := ?_) rfl (by kernel_rfl) (by kernel_rfl) (by kernel_rfl) (by kernel_rfl) (by kernel_rfl) (fun _ _ _ h => h) (Or.inl ⟨by rfl, ?_⟩) (by assumption) ?_
                        rotate_left
                        · (intro w hSw; obtain ⟨g1, g2, g3, g4⟩ := hSw; go_simp; try with_reducible rfl)
                        simp only [Act.put, List.setIfInBounds_toArray, List.set_cons_zero, List.set_cons_succ]
                        refine AnyE.take (i := 8) (d := 91) (v := ?_) rfl (by kernel_rfl) (by kernel_rfl) (by kernel_rfl) (by kernel_rfl) (by kernel_rfl) (fun _ _ _ h => h) (Or.inl ⟨by rfl, ?_⟩) (by assumption) ?_
                        rotate_left
                        · (intro w hSw; obtain ⟨g1, g2, g3, g4⟩ := hSw; go_simp; try with_reducible rfl)
                        simp only [Act.put, List.setIfInBounds_toArray, List.set_cons_zero, List.set_cons_succ]
                        refine AnyE.take (i := 9) (d := 92) (v := ?_) rfl (by kernel_rfl) (by kernel_rfl) (by kernel_rfl) (by kernel_rfl) (by kernel_rfl) (fun _ _ _ h => h) (Or.inl ⟨by rfl, ?_⟩) (by assumption) ?_
                        rotate_left
                        · (intro w hSw; obtain ⟨g1, g2, g3, g4⟩ := hSw; go_simp; try with_reducible rfl)
                        simp only [Act.put, List.setIfInBounds_toArray, List.set_cons_zero, List.set_cons_succ]
                        refine AnyE.take (i := 10) (d := 93) (v := ?_) rfl (by kernel_rfl) (by kernel_rfl) (by kernel_rfl) (by kernel_rfl) (by kernel_rfl) (fun _ _ _ h => h) (Or.inl ⟨by rfl, ?_⟩) (by assumption) ?_
                        rotate_left
                        · (intro w hSw; obtain ⟨g1, g2, g3, g4⟩ := hSw; go_simp; try with_reducible rfl)
                        simp only [Act.put, List.setIfInBounds_toArray, List.set_cons_zero, List.set_cons_succ]
                        refine AnyE.take (i := 11) (d := 94) (v := ?_) rfl (by kernel_rfl) (by kernel_rfl) (by kernel_rfl) (by kernel_rfl) (by kernel_rfl) (fun _ _ _ h => h) (Or.inl ⟨by rfl, ?_⟩) (by assumption) ?_
                        rotate_left
                        · (intro w hSw; obtain ⟨g1, g2, g3, g4⟩ := hSw; go_simp; try with_reducible rfl)
                        simp only [Act.put, List.setIfInBounds_toArray, List.set_cons_zero, List.set_cons_succ]
                        refine AnyE.take (i := 12) (d := 95) (v := ?_) rfl (by kernel_rfl) (by kernel_rfl) (by kernel_rfl) (by kernel_rfl) (by kernel_rfl) (fun _ _ _ h => h) (Or.inl ⟨by rfl, ?_⟩) (by assumption) ?_
                        rotate_left
                        · (intro w hSw; obtain ⟨g1, g2, g3, g4⟩ := hSw; go_simp; try with_reducible rfl)
                        simp only [Act.put, List.setIfInBounds_toArray, List.set_cons_zero, List.set_cons_succ]
                        refine AnyE.take (i := 13) (d := 96) (v := ?_) rfl (by kernel_rfl) (by kernel_rfl) (by kernel_rfl) (by kernel_rfl) (by kernel_rfl) (fun _ _ _ h => h) (Or.inl ⟨by rfl, ?_⟩) (by assumption) ?_
                        rotate_left
                        · (intro w hSw; obtain ⟨g1, g2, g3, g4⟩ := hSw; go_simp; try with_reducible rfl)
                        simp only [Act.put, List.setIfInBounds_toArray, List.set_cons_zero, List.set_cons_succ]
                        refine AnyE.take (i := 14) (d := 97) (v := ?_) rfl (by kernel_rfl) (by kernel_rfl) (by kernel_rfl) (by kernel_rfl) (by kernel_rfl) (fun _ _ _ h => h) (Or.inl ⟨by rfl, ?_⟩) (by assumption) ?_
                        rotate_left
                        · (intro w hSw; clear hSw; go_simp; try with_reducible rfl)
                        simp only [Act.put, List.setIfInBounds_toArray, List.set_cons_zero, List.set_cons_succ]
                        refine AnyE.step (i := 15) (by kernel_rfl) (by rfl) rfl (fun K hK => ?_)
                        go_simp
                        rw [← HWd1.out]
                        refine hK.out _ _ ?_ (fun hHeld => ?_)
                        · exact ⟨c2', c3', k1', hE1'⟩
                        clear hK K
                        try simp only [Act.put, List.setIfInBounds_toArray, List.set_cons_zero, List.set_cons_succ]
                        refine AnyE.take (i := 16) (d := 98) (v := ?_) rfl (by kernel_rfl) (by kernel_rfl) (by kernel_rfl) (by kernel_rfl) (by kernel_rfl) (fun _ _ _ h => h) (Or.inl ⟨by rfl, ?_⟩) (by assumption) ?_
                        rotate_left
                        · (intro w hSw; clear hSw; go_simp; try with_reducible rfl)
                        simp only [Act.put, List.setIfInBounds_toArray, List.set_cons_zero, List.set_cons_succ]
                        refine AnyE.last (i := 17) (by kernel_rfl) rfl rfl (by kernel_rfl) (fun K hK => ?_)
                        go_simp
                        refine hK.out _ _ ?_
                        clear hK K
                        go_wp2
                        go_roundw
                        case rel => exact ⟨q + 1, _, a, f2, by omega, by go_num, HRn, HRi, H82, H92, HN2, HB2, HS22⟩
                        case measure => simp [intOf]; omega
end Go.Proofs.Ytcjmapdeopffcaa
