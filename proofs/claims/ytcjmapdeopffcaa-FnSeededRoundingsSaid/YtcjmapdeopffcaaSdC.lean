/- IsRounding, the program. -/
import Derived.Test.YtcjmapdeopffcaaSdB
import Derived.Test.YtcjmapdeopffcaaHn
import Derived.BigQuiet
namespace Go.Proofs.Ytcjmapdeopffcaa
open Go.RowKit Flo
set_option linter.unusedVariables false

/-- Two truths, the first one as a statement says. -/
def RetB (w : World) (g : Bool) (P : Prop) (e : Ending) (w' : World) : Prop := (∃ v : Bool, e = .returned (.tuple #[.bool v, .bool g]) ∧ (v = true ↔ P)) ∧ Below w.heap.size w w'
theorem RetB.no {w w' : World} {g : Bool} {P : Prop} (h : ¬ P) (hb : Below w.heap.size w w') : RetB w g P (.returned (.tuple #[.bool false, .bool g])) w' := ⟨⟨false, rfl, ⟨fun h2 => Bool.noConfusion h2, fun h2 => absurd h2 h⟩⟩, hb⟩
theorem IntsS.drewN {w : World} {A : Option Addr} {n : Nat} {L : Nat → List Int} (h : IntsS w A n L) (q : Nat) : IntsS (w.drewN q) A n L := h
theorem fnL_lst {L : Nat → List Int} {n m : Nat} (h : ∀ i, i < n → (L i).length = m) (i : Nat) (hi : i < n) : L i = lst m (fnL L i) := by
  have := lst_of (L i)
  rw [h i hi] at this
  exact this.symm
/-- What is asked. -/
def RndQ (n : Nat) (L : Nat → List Int) (b : Int) (N : Nat) (K : Nat → List Int) (rs cs : List Int) (t : Int) : Prop := (inR b 2 100 && mxB n L) = true ∧ IsRnd n (L 0).length b (fnL L) N K rs cs t

set_option maxRecDepth 100000 in
set_option maxHeartbeats 8000000 in
theorem implIsRnd_any (A X R C : Option Addr) (n c nx xc nr rc nc cc : Nat) (b t : Int) (L K : Nat → List Int) (rs cs : List Int) (w : World) (hx : IntsS w A n L) (hy : RnR w X R C nx nr nc K rs cs) (hn : n ≤ 1099511627776) (hL : ∀ j, j < n → (L j).length ≤ 1099511627776) (hnx : nx ≤ 1099511627776) (hnr : nr ≤ 1099511627776) (hnc : nc ≤ 1099511627776) :
    Calls Try.prog 17 #[.slice A n c, .int .i64 b, .agg #[.slice X nx xc, .slice R nr rc, .slice C nc cc, .int .i64 t]] w (RetB w (inR b 2 100 && mxB n L) (RndQ n L b nx K rs cs t)) := by
  obtain ⟨P, hP⟩ : ∃ P : Prop, Hid (P = RndQ n L b nx K rs cs t) := ⟨_, Lib.hid rfl⟩
  rw [← hP.out]
  have b0 := below_new w (.cells #[.slice X nx xc, .slice R nr rc, .slice C nc cc, .int .i64 t] 26)
  have x0 := box_new w #[.slice X nx xc, .slice R nr rc, .slice C nc cc, .int .i64 t] 26
  have HX1 := Lib.hid (IntsS.below hx b0)
  have HY1 := Lib.hid (hy.below b0)
  have B0 := Lib.hid b0
  have X0 := Lib.hid x0
  have HL := Lib.hid hL
  have HRL := Lib.hid hy.r.1
  have HCL := Lib.hid hy.c.1
  clear hx hy hL b0 x0
  go_enter Try.func17, Try.ntmps17
  go_wp2_with fail
  generalize w.alloc (.cells #[.slice X nx xc, .slice R nr rc, .slice C nc cc, .int .i64 t] 26) = w1 at *
  refine (isMatrix_any A n c L _ HX1.out hn HL.out).mono ?_
  rintro e w' ⟨rfl, rfl⟩
  cases hm : mxB n L
  case false =>
    have HN : Hid (¬ P) := Lib.hid (fun h => by rw [hP.out] at h; have h1 := h.1; rw [hm, Bool.and_false] at h1; cases h1)
    have HG : Hid ((inR b 2 100 && mxB n L) = false) := Lib.hid (by rw [hm, Bool.and_false])
    clear hm
    go_wp2
    go_ret2
    rw [HG.out]
    exact RetB.no HN.out B0.out
  case true =>
    go_wp2_with fail
    refine (isBaseOf_any b _).mono ?_
    rintro e w' ⟨rfl, rfl⟩
    cases hB : inR b 2 100
    case false =>
      have HN : Hid (¬ P) := Lib.hid (fun h => by rw [hP.out] at h; have h1 := h.1; rw [hB, Bool.false_and] at h1; cases h1)
      have HG : Hid ((inR b 2 100 && mxB n L) = false) := Lib.hid (by rw [hB, Bool.false_and])
      clear hm hB
      go_wp2
      go_ret2
      rw [HG.out]
      exact RetB.no HN.out B0.out
    case true =>
      have HG : Hid ((inR b 2 100 && mxB n L) = true) := Lib.hid (by rw [hB, hm]; rfl)
      obtain ⟨hn1, hn7, hm1, hm7, hsh, hxb⟩ := mxB_of hm
      obtain ⟨hb2, hb100⟩ := inR_of hB
      obtain ⟨x, hxe⟩ : ∃ x : Nat → Nat → Int, x = fnL L := ⟨_, rfl⟩
      obtain ⟨m, hme⟩ : ∃ m, m = (L 0).length := ⟨_, rfl⟩
      have HPQ : Hid (P = IsRnd n m b x nx K rs cs t) := Lib.hid (by rw [hP.out, hxe, hme]; unfold RndQ; rw [HG.out]; simp)
      have HMX : Hid (MatR w1 A n m x) := Lib.hid (by
        rw [hxe]
        exact matR_of HX1.out (fun i hi => by rw [hme]; exact hsh i hi))
      have HXB : Hid (∀ i j, i < n → j < m → 0 ≤ x i j ∧ x i j ≤ 10000) := Lib.hid (by rw [hxe, hme]; exact hxb)
      rw [← hme] at hm1 hm7
      clear hsh hxb hxe hme hm hB HX1 HL hP
      obtain ⟨ad, rfl, V0, cv0, r0, _⟩ := matR_row HMX.out (show 0 < n by omega)
      have r0 : w1.cell? ad = some (.slice V0 m cv0) := by simpa [Addr.add] using r0
      have c0 := box_cell X0.out 0 (.slice X nx xc) rfl
      have c1 := box_cell X0.out 1 (.slice R nr rc) rfl
      have c2 := box_cell X0.out 2 (.slice C nc cc) rfl
      have QH : Hid (∀ W, IntsS W X nx K → Calls Try.prog 52 #[.slice X nx xc, .int .i64 n, .int .i64 m] W fun e w' => e = .returned (.bool (decide (nx = n) && shB nx m K)) ∧ w' = W) := Lib.hid (fun W h => (hasShape_any X nx xc n m K W h hnx).mono fun _ _ ⟨h1, h2⟩ => ⟨h1, h2.symm⟩)
      obtain ⟨S, hS⟩ : ∃ S, Hid (S = (decide (nx = n) && shB nx m K)) := ⟨_, Lib.hid rfl⟩
      rw [← hS.out] at QH
      cases S
      case false =>
        have HN : Hid (¬ P) := Lib.hid (fun h => by
          rw [HPQ.out] at h
          have h2 := hS.out
          rw [decide_eq_true h.hn, shB_yes (fun i hi => h.sh i (by have := h.hn; omega))] at h2
          cases h2)
        clear c1 c2
        go_wp2
        go_quiet ((go_at_call 52; with_reducible exact Calls.quiet_of_same (QH.out _ (IntsS.drewN HY1.out.x _))))
        go_wp2
        go_ret2
        rw [HG.out]
        exact RetB.no HN.out (by first | exact B0.out | exact below_drewN B0.out _)
      case true =>
        have hsp := hS.out
        rw [eq_comm, Bool.and_eq_true] at hsp
        obtain ⟨hs1, hs2⟩ := hsp
        have hnn : n = nx := (of_decide_eq_true hs1).symm
        have HSH : Hid (∀ i, i < n → (K i).length = m) := Lib.hid (by rw [hnn]; exact shB_of hs2)
        subst hnn
        clear hs1 hs2
        by_cases hr1 : nr = n
        case neg =>
          have HN : Hid (¬ P) := Lib.hid (fun h => by rw [HPQ.out] at h; exact hr1 (HRL.out.symm.trans h.rl))
          have q1 : ((nr : Int) != n) = true := by rw [bne_iff_ne]; omega
          clear hr1 c2
          go_wp2
          go_quiet ((go_at_call 52; with_reducible exact Calls.quiet_of_same (QH.out _ (IntsS.drewN HY1.out.x _))))
          go_wp2
          go_ret2
          rw [HG.out]
          exact RetB.no HN.out (by first | exact B0.out | exact below_drewN B0.out _)
        case pos =>
          obtain rfl : n = nr := hr1.symm
          by_cases hc1 : nc = m
          case neg =>
            have HN : Hid (¬ P) := Lib.hid (fun h => by rw [HPQ.out] at h; exact hc1 (HCL.out.symm.trans h.cl))
            have q2 : ((nc : Int) != m) = true := by rw [bne_iff_ne]; omega
            clear hc1
            go_wp2
            go_quiet ((go_at_call 52; with_reducible exact Calls.quiet_of_same (QH.out _ (IntsS.drewN HY1.out.x _))))
            go_wp2
            go_ret2
            rw [HG.out]
            exact RetB.no HN.out (by first | exact B0.out | exact below_drewN B0.out _)
          case pos =>
            obtain rfl : m = nc := hc1.symm
            go_wp2
            go_quiet ((go_at_call 52; with_reducible exact Calls.quiet_of_same (QH.out _ (IntsS.drewN HY1.out.x _))))
            have HMX2 : Hid (MatR (w1.drewN nq) (some ad) n m x) := Lib.hid HMX.out
            have HY2 : Hid (RnR (w1.drewN nq) X R C n n m K rs cs) := Lib.hid ⟨HY1.out.x, HY1.out.r, HY1.out.c⟩
            have B2 : Hid (Below w.heap.size w (w1.drewN nq)) := Lib.hid (below_drewN B0.out _)
            have X2 : Hid ((w1.drewN nq).heap[w.heap.size]? = some (.cells #[.slice X n xc, .slice R n rc, .slice C m cc, .int .i64 t] 26 (0, 0))) := Lib.hid X0.out
            have HXM : Hid (∀ i j, i < n → j < m → 0 ≤ x i j ∧ x i j ≤ 1000000) := Lib.hid (fun i j hi hj => by have := HXB.out i j hi hj; omega)
            clear r0 c0 c1 c2 QH hr1 hc1 hS HMX HY1 B0 X0
            generalize w1.drewN nq = w2 at *
            go_wp2_with fail
            refine (summed_any n m (some ad) c x w2 HMX2.out hn1 (by omega) hm1 (by omega) HXM.out).mono ?_
            rintro e w3 ⟨OX, OR, OC, oxc, orc, occ, rfl, hO, b3⟩
            have HO3 := Lib.hid hO
            have HMX3 := Lib.hid (IntsS.below HMX2.out b3)
            have HY3 := Lib.hid (HY2.out.below b3)
            have B3 := Lib.hid (B2.out.trans (b3.mono B2.out.size))
            have X3 := Lib.hid (box_below X2.out b3)
            clear hO b3 HMX2 HY2 B2 X2 HXM
            have l3 := lt_of_block X3.out
            go_wp2_with fail
            obtain ⟨ot, hot⟩ : ∃ ot, ot = totS n m x := ⟨_, rfl⟩
            have HOT := Lib.hid hot
            rw [← hot]
            have b4 := below_new w3 (.cells #[.slice OX n oxc, .slice OR n orc, .slice OC m occ, .int .i64 ot] 26)
            have x4 := box_new w3 #[.slice OX n oxc, .slice OR n orc, .slice OC m occ, .int .i64 ot] 26
            have HO4 := Lib.hid (HO3.out.below b4)
            have HMX4 := Lib.hid (IntsS.below HMX3.out b4)
            have HY4 := Lib.hid (HY3.out.below b4)
            have B4 := Lib.hid (B3.out.trans (b4.mono B3.out.size))
            have X4 := Lib.hid (box_below X3.out b4)
            obtain ⟨T4, hT4⟩ : ∃ T4, T4 = w3.heap.size := ⟨_, rfl⟩
            have HT4 := Lib.hid hT4
            rw [← hT4] at x4
            have XO4 := Lib.hid x4
            clear b4 x4 hot HO3 HMX3 HY3 B3 X3 l3
            generalize w3.alloc (.cells #[.slice OX n oxc, .slice OR n orc, .slice OC m occ, .int .i64 ot] 26) = w4 at *
            rw [← hT4]
            clear hT4
            go_loop [58] (fun iv => ∃ k : Nat, k ≤ n ∧ iv = .int .i64 k ∧ Hid (∀ i, i < k → ∀ j, j < m → Near b (x i j) (fnL K i j))) (fun iv => n - (intOf iv).toNat)
            case atStart => exact ⟨0, Nat.zero_le _, rfl, Lib.hid (fun i hi => absurd hi (Nat.not_lt_zero _))⟩
            case round =>
              obtain ⟨k, hk, rfl, HA⟩ := hrel
              by_cases hlt : k < n
              case pos =>
                obtain ⟨ad', eA', V, cv, p1, hv⟩ := matR_row HMX4.out hlt
                obtain rfl : ad = ad' := Option.some.inj eA'
                obtain ⟨av, rfl, _⟩ := vecR_at hv (show 0 < m by omega)
                have HV := Lib.hid hv
                obtain ⟨ay, hay, W, wv, p2, hw⟩ := HY4.out.x.at_ hlt
                subst hay
                rw [HSH.out k hlt] at p2 hw
                obtain ⟨aw, rfl, _⟩ := hw.at_ (show 0 < m by omega)
                have HW := Lib.hid hw
                clear hv hw eA'
                have c0 := box_cell X4.out 0 (.slice (some ay) n xc) rfl
                go_wp2_with fail
                go_loop [65] (fun iv => ∃ q : Nat, q ≤ m ∧ iv = .int .i64 q ∧ Hid (∀ j, j < q → Near b (x k j) (fnL K k j))) (fun iv => m - (intOf iv).toNat)
                case atStart => exact ⟨0, Nat.zero_le _, rfl, Lib.hid (fun i hi => absurd hi (Nat.not_lt_zero _))⟩
                case round =>
                  obtain ⟨q, hq, rfl, HQ⟩ := hrel
                  by_cases hlq : q < m
                  case pos =>
                    obtain ⟨av', eV, p3⟩ := vecR_at HV.out hlq
                    obtain rfl : av = av' := Option.some.inj eV
                    obtain ⟨aw', eW, p4⟩ := HW.out.at_ hlq
                    obtain rfl : aw = aw' := Option.some.inj eW
                    obtain ⟨hxv0, hxv1⟩ := HXB.out k q hlt hlq
                    obtain ⟨xv, hxe⟩ : ∃ xv, Hid (xv = x k q) := ⟨_, Lib.hid rfl⟩
                    obtain ⟨yv, hye⟩ : ∃ yv, Hid (yv = fnL K k q) := ⟨_, Lib.hid rfl⟩
                    rw [← hxe.out] at p3 hxv0 hxv1
                    rw [show (K k)[q]?.getD 0 = yv from hye.out.symm] at p4
                    clear eV eW
                    go_wp2_with fail
                    refine (isRounded_any xv b yv _ hb2 hb100 hxv0 (by omega)).mono ?_
                    rintro e w' ⟨rfl, rfl⟩
                    cases hnb : nearB b xv yv
                    case false =>
                      have HN : Hid (¬ P) := Lib.hid (fun h => by
                        rw [HPQ.out] at h
                        have h2 := h.cell k hlt q hlq
                        rw [← hxe.out, ← hye.out] at h2
                        rw [nearB_iff.2 h2] at hnb
                        cases hnb)
                      clear hnb p3 p4
                      go_wp2
                      go_ret2
                      rw [HG.out]
                      exact RetB.no HN.out B4.out
                    case true =>
                      have HQ2 : Hid (∀ j, j < q + 1 → Near b (x k j) (fnL K k j)) := Lib.hid (fun j hj => by
                        by_cases e : j = q
                        · subst e; have h2 := nearB_iff.1 hnb; rw [hxe.out, hye.out] at h2; exact h2
                        · exact HQ.out j (by omega))
                      clear hnb p3 p4
                      go_wp2
                      go_roundw
                      case rel => exact ⟨q + 1, by omega, by go_num, HQ2⟩
                      case measure => simp [intOf]; omega
                  case neg =>
                    have HA2 : Hid (∀ i, i < k + 1 → ∀ j, j < m → Near b (x i j) (fnL K i j)) := Lib.hid (fun i hi j hj => by
                      by_cases e : i = k
                      · subst e; exact HQ.out j (by omega)
                      · exact HA.out i (by omega) j hj)
                    go_wp2
                    go_roundw
                    case rel => exact ⟨k + 1, by omega, by go_num, HA2⟩
                    case measure => simp [intOf]; omega
              case neg =>
                have HC : Hid (∀ i, i < n → ∀ j, j < m → Near b (x i j) (fnL K i j)) := Lib.hid (fun i hi => HA.out i (by omega))
                have HYB : Hid (∀ i j, i < n → j < m → 0 ≤ fnL K i j ∧ fnL K i j ≤ 1000000) := Lib.hid (fun i j hi hj => by
                  have h1 := HC.out i hi j hj
                  have h2 := HXB.out i j hi hj
                  have h3 := near_nn hb2 h2.1 h1
                  have h4 := h1.2.2
                  omega)
                have HMY : Hid (MatR w4 X n m (fnL K)) := Lib.hid (IntsS.fn HY4.out.x (fun i hi => (fnL_lst HSH.out i hi).symm))
                have c0 := box_cell X4.out 0 (.slice X n xc) rfl
                clear HA
                have HRD := Lib.hid (rndBd (n := n) (m := m) (x := x) (by omega) (by omega) (fun i j hi hj => by have := HXB.out i j hi hj; omega))
                have HTB : Hid (0 ≤ ot ∧ ot ≤ 100000000) := Lib.hid (by rw [HOT.out]; have h := HRD.out.2.2; omega)
                go_wp2_with fail
                refine (summed_any n m X xc (fnL K) w4 HMY.out hn1 (by omega) hm1 (by omega) HYB.out).mono ?_
                rintro e w5 ⟨SX, SR, SC, sxc, src, scc, rfl, hO, b5⟩
                have HS5 := Lib.hid hO.rnO.read
                have HO5 := Lib.hid (HO4.out.rnO.read.below b5)
                have HY5 := Lib.hid (HY4.out.below b5)
                have B5 := Lib.hid (B4.out.trans (b5.mono B4.out.size))
                have X5 := Lib.hid (box_below X4.out b5)
                have XO5 := Lib.hid (box_below XO4.out b5)
                obtain ⟨st, hst⟩ : ∃ st, st = totS n m (fnL K) := ⟨_, rfl⟩
                have HST := Lib.hid hst
                rw [← hst]
                clear hO b5 HMX4 HY4 B4 X4 XO4 HMY HO4 c0 hst
                have y1 := box_cell X5.out 1 (.slice R n rc) rfl
                have y2 := box_cell X5.out 2 (.slice C m cc) rfl
                have y3 := box_cell X5.out 3 (.int .i64 t) rfl
                have l5 := lt_of_block X5.out
                go_wp2_with fail
                have b6 := below_new w5 (.cells #[.slice SX n sxc, .slice SR n src, .slice SC m scc, .int .i64 st] 26)
                have x6 := box_new w5 #[.slice SX n sxc, .slice SR n src, .slice SC m scc, .int .i64 st] 26
                have HS6 := Lib.hid (HS5.out.below b6)
                have HO6 := Lib.hid (HO5.out.below b6)
                have HY6 := Lib.hid (HY5.out.below b6)
                have B6 := Lib.hid (B5.out.trans (b6.mono B5.out.size))
                have X6 := Lib.hid (box_below X5.out b6)
                have XO6 := Lib.hid (box_below XO5.out b6)
                obtain ⟨T6, hT6⟩ : ∃ T6, T6 = w5.heap.size := ⟨_, rfl⟩
                rw [← hT6] at x6
                have XS6 := Lib.hid x6
                clear b6 x6 HS5 HO5 HY5 B5 X5 XO5 y1 y2 y3 l5
                generalize w5.alloc (.cells #[.slice SX n sxc, .slice SR n src, .slice SC m scc, .int .i64 st] 26) = w6 at *
                rw [← hT6]
                clear hT6
                refine (slEqI_any SR R n src rc (lst n (rowS m (fnL K))) rs w6 HS6.out.r HY6.out.r (by omega)).mono ?_
                rintro e w7 ⟨rfl, b7⟩
                have HS7 := Lib.hid (HS6.out.below b7)
                have HO7 := Lib.hid (HO6.out.below b7)
                have HY7 := Lib.hid (HY6.out.below b7)
                have B7 := Lib.hid (B6.out.trans (b7.mono B6.out.size))
                have X7 := Lib.hid (box_below X6.out b7)
                have XO7 := Lib.hid (box_below XO6.out b7)
                have XS7 := Lib.hid (box_below XS6.out b7)
                clear b7 HS6 HO6 HY6 B6 X6 XO6 XS6
                cases he1 : (lst n (rowS m (fnL K)) == rs)
                case false =>
                  have HN : Hid (¬ P) := Lib.hid (fun h => by
                    rw [HPQ.out] at h
                    rw [← h.er, beq_self_eq_true] at he1
                    cases he1)
                  clear he1
                  go_wp2
                  go_ret2
                  rw [HG.out]
                  exact RetB.no HN.out B7.out
                case true =>
                  have HE1 := Lib.hid (eq_of_beq he1).symm
                  clear he1
                  have y2 := box_cell X7.out 2 (.slice C m cc) rfl
                  have s2 := box_cell XS7.out 2 (.slice SC m scc) rfl
                  go_wp2_with fail
                  refine (slEqI_any SC C m scc cc (lst m (colS n (fnL K))) cs w7 HS7.out.c HY7.out.c (by omega)).mono ?_
                  rintro e w8 ⟨rfl, b8⟩
                  have HO8 := Lib.hid (HO7.out.below b8)
                  have HY8 := Lib.hid (HY7.out.below b8)
                  have B8 := Lib.hid (B7.out.trans (b8.mono B7.out.size))
                  have X8 := Lib.hid (box_below X7.out b8)
                  have XO8 := Lib.hid (box_below XO7.out b8)
                  have XS8 := Lib.hid (box_below XS7.out b8)
                  clear b8 HS7 HO7 HY7 B7 X7 XO7 XS7 y2 s2
                  cases he2 : (lst m (colS n (fnL K)) == cs)
                  case false =>
                    have HN : Hid (¬ P) := Lib.hid (fun h => by
                      rw [HPQ.out] at h
                      rw [← h.ec, beq_self_eq_true] at he2
                      cases he2)
                    clear he2
                    go_wp2
                    go_ret2
                    rw [HG.out]
                    exact RetB.no HN.out B8.out
                  case true =>
                    have HE2 := Lib.hid (eq_of_beq he2).symm
                    clear he2
                    have y3 := box_cell X8.out 3 (.int .i64 t) rfl
                    have s3 := box_cell XS8.out 3 (.int .i64 st) rfl
                    by_cases he3 : st = t
                    case neg =>
                      have HN : Hid (¬ P) := Lib.hid (fun h => by
                        rw [HPQ.out] at h
                        exact he3 (HST.out.trans h.tt.symm))
                      have q3 : (st != t) = true := by rw [bne_iff_ne]; exact he3
                      clear he3
                      go_wp2
                      go_ret2
                      rw [HG.out]
                      exact RetB.no HN.out B8.out
                    case pos =>
                      have HE3 : Hid (t = totS n m (fnL K)) := Lib.hid (he3.symm.trans HST.out)
                      subst he3
                      have o1 := box_cell XO8.out 1 (.slice OR n orc) rfl
                      go_wp2_with fail
                      clear s3 o1
                      go_loop [111] (fun iv => ∃ k : Nat, k ≤ n ∧ iv = .int .i64 k ∧ Hid (∀ i, i < k → Near b (rowS m x i) (rs[i]?.getD 0))) (fun iv => n - (intOf iv).toNat)
                      case atStart => exact ⟨0, Nat.zero_le _, rfl, Lib.hid (fun i hi => absurd hi (Nat.not_lt_zero _))⟩
                      case round =>
                        obtain ⟨k, hk, rfl, HA⟩ := hrel
                        by_cases hlt : k < n
                        case pos =>
                          obtain ⟨ao, rfl, p1⟩ := vecR_at HO8.out.r hlt
                          obtain ⟨ar, rfl, p2⟩ := HY8.out.r.at_ hlt
                          have y1 := box_cell X8.out 1 (.slice (some ar) n rc) rfl
                          obtain ⟨hxv0, hxv1⟩ := HRD.out.1 k hlt
                          obtain ⟨xv, hxe⟩ : ∃ xv, Hid (xv = rowS m x k) := ⟨_, Lib.hid rfl⟩
                          obtain ⟨yv, hye⟩ : ∃ yv, Hid (yv = rs[k]?.getD 0) := ⟨_, Lib.hid rfl⟩
                          rw [← hxe.out] at p1 hxv0 hxv1
                          rw [← hye.out] at p2
                          go_wp2_with fail
                          refine (isRounded_any xv b yv _ hb2 hb100 hxv0 (by omega)).mono ?_
                          rintro e w' ⟨rfl, rfl⟩
                          cases hnb : nearB b xv yv
                          case false =>
                            have HN : Hid (¬ P) := Lib.hid (fun h => by
                              rw [HPQ.out] at h
                              have h2 := h.nr k hlt
                              rw [← hxe.out, ← hye.out] at h2
                              rw [nearB_iff.2 h2] at hnb
                              cases hnb)
                            clear hnb p1 p2 y1 y3
                            go_wp2
                            go_ret2
                            rw [HG.out]
                            exact RetB.no HN.out B8.out
                          case true =>
                            have HQ2 : Hid (∀ j, j < k + 1 → Near b (rowS m x j) (rs[j]?.getD 0)) := Lib.hid (fun j hj => by
                              by_cases e : j = k
                              · subst e; have h2 := nearB_iff.1 hnb; rw [hxe.out, hye.out] at h2; exact h2
                              · exact HA.out j (by omega))
                            clear hnb p1 p2 y1
                            go_wp2
                            go_roundw
                            case rel => exact ⟨k + 1, by omega, by go_num, HQ2⟩
                            case measure => simp [intOf]; omega
                        case neg =>
                          have HR : Hid (∀ i, i < n → Near b (rowS m x i) (rs[i]?.getD 0)) := Lib.hid (fun i hi => HA.out i (by omega))
                          have o2 := box_cell XO8.out 2 (.slice OC m occ) rfl
                          clear HA
                          go_wp2_with fail
                          clear o2
                          go_loop [129] (fun iv => ∃ k : Nat, k ≤ m ∧ iv = .int .i64 k ∧ Hid (∀ i, i < k → Near b (colS n x i) (cs[i]?.getD 0))) (fun iv => m - (intOf iv).toNat)
                          case atStart => exact ⟨0, Nat.zero_le _, rfl, Lib.hid (fun i hi => absurd hi (Nat.not_lt_zero _))⟩
                          case round =>
                            obtain ⟨q, hq, rfl, HA⟩ := hrel
                            by_cases hlq : q < m
                            case pos =>
                              obtain ⟨ao, rfl, p1⟩ := vecR_at HO8.out.c hlq
                              obtain ⟨ar, rfl, p2⟩ := HY8.out.c.at_ hlq
                              have y2 := box_cell X8.out 2 (.slice (some ar) m cc) rfl
                              obtain ⟨hxv0, hxv1⟩ := HRD.out.2.1 q hlq
                              obtain ⟨xv, hxe⟩ : ∃ xv, Hid (xv = colS n x q) := ⟨_, Lib.hid rfl⟩
                              obtain ⟨yv, hye⟩ : ∃ yv, Hid (yv = cs[q]?.getD 0) := ⟨_, Lib.hid rfl⟩
                              rw [← hxe.out] at p1 hxv0 hxv1
                              rw [← hye.out] at p2
                              go_wp2_with fail
                              refine (isRounded_any xv b yv _ hb2 hb100 hxv0 (by omega)).mono ?_
                              rintro e w' ⟨rfl, rfl⟩
                              cases hnb : nearB b xv yv
                              case false =>
                                have HN : Hid (¬ P) := Lib.hid (fun h => by
                                  rw [HPQ.out] at h
                                  have h2 := h.nc q hlq
                                  rw [← hxe.out, ← hye.out] at h2
                                  rw [nearB_iff.2 h2] at hnb
                                  cases hnb)
                                clear hnb p1 p2 y2 y3
                                go_wp2
                                go_ret2
                                rw [HG.out]
                                exact RetB.no HN.out B8.out
                              case true =>
                                have HQ2 : Hid (∀ j, j < q + 1 → Near b (colS n x j) (cs[j]?.getD 0)) := Lib.hid (fun j hj => by
                                  by_cases e : j = q
                                  · subst e; have h2 := nearB_iff.1 hnb; rw [hxe.out, hye.out] at h2; exact h2
                                  · exact HA.out j (by omega))
                                clear hnb p1 p2 y2
                                go_wp2
                                go_roundw
                                case rel => exact ⟨q + 1, by omega, by go_num, HQ2⟩
                                case measure => simp [intOf]; omega
                            case neg =>
                              have HCC : Hid (∀ i, i < m → Near b (colS n x i) (cs[i]?.getD 0)) := Lib.hid (fun i hi => HA.out i (by omega))
                              have o3 := box_cell XO8.out 3 (.int .i64 ot) rfl
                              have HPF : Hid (nearB b ot st = true ↔ P) := Lib.hid (by
                                rw [HPQ.out, nearB_iff, HOT.out]
                                exact ⟨fun h => ⟨rfl, HSH.out, HRL.out, HCL.out, HC.out, HE1.out, HE2.out, HE3.out, HR.out, HCC.out, h⟩, fun h => h.nt⟩)
                              obtain ⟨hot0, hot1⟩ := HTB.out
                              clear HA
                              go_wp2_with fail
                              refine (isRounded_any ot b st _ hb2 hb100 hot0 hot1).mono ?_
                              rintro e w' ⟨rfl, rfl⟩
                              clear o3 y3
                              go_wp2
                              go_ret2
                              rw [HG.out]
                              exact ⟨⟨_, rfl, HPF.out⟩, B8.out⟩
end Go.Proofs.Ytcjmapdeopffcaa
