/- IsRounding, the reference; printed by gsdd.py. -/
import Derived.Test.YtcjmapdeopffcaaSdC
namespace Go.Proofs.Ytcjmapdeopffcaa
open Go.RowKit Flo
set_option linter.unusedVariables false

set_option maxRecDepth 100000 in
set_option maxHeartbeats 2000000 in
theorem l1SameI_any (A B : Option Addr) (n c d : Nat) (xs ys : List Int) (w : World) (hx : Ints w A n xs) (hy : Ints w B n ys) (hn : n ≤ 1099511627776) :
    Calls Try.prog 88 #[.slice A n c, .slice B n d] w fun e w' => e = .returned (.bool (xs == ys)) ∧ Below w.heap.size w w' := by
  have hl1 := Lib.hid hx.1
  have hl2 := Lib.hid hy.1
  go_enter Try.func88, Try.ntmps88
  go_wp2
  go_loopw [13] (fun i wr => ∃ (k q : Nat), k ≤ n ∧ i = .int .i64 k ∧ Hid (∀ t, t < k → xs[t]?.getD 0 = ys[t]?.getD 0) ∧ wr = w.drewN q) (fun i _ => n - (intOf i).toNat)
  case atStart => exact ⟨0, 0, Nat.zero_le _, rfl, Lib.hid (fun t ht => absurd ht (by omega)), rfl⟩
  case round =>
    obtain ⟨k, q, hk, rfl, he, rfl⟩ := hrel
    by_cases hlt : k < n
    · obtain ⟨ad, rfl, hc⟩ := hx.at_ hlt
      obtain ⟨ad', rfl, hc'⟩ := hy.at_ hlt
      have HN := Lib.hid (fun (h : ¬ xs[k]?.getD 0 = ys[k]?.getD 0) => show false = (xs == ys) by symm; rw [beq_eq_false_iff_ne]; intro h9; exact h (by rw [h9]))
      have HA := Lib.hid (fun (h : xs[k]?.getD 0 = ys[k]?.getD 0) => (show ∀ t, t < k + 1 → xs[t]?.getD 0 = ys[t]?.getD 0 from fun t ht => by
        rcases Nat.lt_or_ge t k with h1 | h1
        · exact he.out t h1
        · obtain rfl : t = k := by omega
          exact h))
      clear hx hy he
      generalize xs[k]?.getD 0 = x at *
      generalize ys[k]?.getD 0 = y at *
      by_cases hxy : x = y
      · have HA2 := Lib.hid (HA.out hxy)
        clear HA HN
        subst hxy
        go_wp2
        go_quiet (fail)
        go_wp2
        go_roundw
        case rel => exact ⟨k + 1, _, by omega, by go_num, HA2, rfl⟩
        case measure => simp [intOf]; omega
      · have R := Lib.hid (HN.out hxy)
        have hq : (x != y) = true := by simpa using hxy
        clear HA HN hxy
        go_wp2
        go_quiet (fail)
        go_wp2
        go_ret
        exact ⟨ret_bool R.out, below_drewN (below_drewN (Below.refl _ _) _) _⟩
    · obtain rfl : k = n := by omega
      have R := Lib.hid (show true = (xs == ys) by
        symm
        rw [beq_iff_eq]
        apply List.ext_getElem?
        intro t
        rcases Nat.lt_or_ge t k with h | h
        · have h1 := he.out t h
          rw [List.getElem?_eq_getElem (by rw [hl1.out]; exact h), List.getElem?_eq_getElem (by rw [hl2.out]; exact h)] at h1 ⊢
          rw [Option.getD_some, Option.getD_some] at h1
          rw [h1]
        · rw [List.getElem?_eq_none (by rw [hl1.out]; exact h), List.getElem?_eq_none (by rw [hl2.out]; exact h)])
      clear hx hy
      go_wp2
      go_ret
      exact ⟨ret_bool R.out, below_drewN (Below.refl _ _) _⟩

/-- A truth as a statement says. -/
def RetV (w : World) (P : Prop) (e : Ending) (w' : World) : Prop := (∃ v : Bool, e = .returned (.bool v) ∧ (v = true ↔ P)) ∧ Below w.heap.size w w'
theorem RetV.no {w w' : World} {P : Prop} (h : ¬ P) (hb : Below w.heap.size w w') : RetV w P (.returned (.bool false)) w' := ⟨⟨false, rfl, ⟨fun h2 => Bool.noConfusion h2, fun h2 => absurd h2 h⟩⟩, hb⟩
theorem RetV.yes {w w' : World} {P : Prop} (h : P) (hb : Below w.heap.size w w') : RetV w P (.returned (.bool true)) w' := ⟨⟨true, rfl, ⟨fun _ => h, fun _ => rfl⟩⟩, hb⟩

set_option maxRecDepth 100000 in
set_option maxHeartbeats 8000000 in
theorem oRounds_any (A X R C : Option Addr) (n m c nx xc nr rc nc cc : Nat) (b t : Int) (x : Nat → Nat → Int) (K : Nat → List Int) (rs cs : List Int) (w : World) (hx : MatR w A n m x) (hy : RnR w X R C nx nr nc K rs cs) (hn1 : 1 ≤ n) (hn7 : n ≤ 7) (hm1 : 1 ≤ m) (hm7 : m ≤ 7) (hb2 : 2 ≤ b) (hb100 : b ≤ 100) (hxb : ∀ i j, i < n → j < m → 0 ≤ x i j ∧ x i j ≤ 10000) (hnx : nx ≤ 1099511627776) (hnr : nr ≤ 1099511627776) (hnc : nc ≤ 1099511627776) (hKL : ∀ j, j < nx → (K j).length ≤ 1099511627776) :
    Calls Try.prog 60 #[.slice A n c, .int .i64 b, .agg #[.slice X nx xc, .slice R nr rc, .slice C nc cc, .int .i64 t]] w (RetV w (IsRnd n m b x nx K rs cs t)) := by
  obtain ⟨P, hP⟩ : ∃ P : Prop, Hid (P = IsRnd n m b x nx K rs cs t) := ⟨_, Lib.hid rfl⟩
  have HPQ := hP
  rw [← hP.out]
  have b0 := below_new w (.cells #[.slice X nx xc, .slice R nr rc, .slice C nc cc, .int .i64 t] 26)
  have x0 := box_new w #[.slice X nx xc, .slice R nr rc, .slice C nc cc, .int .i64 t] 26
  have HMX2 := Lib.hid (IntsS.below hx b0)
  have HY2 := Lib.hid (hy.below b0)
  have B2 := Lib.hid b0
  have X2 := Lib.hid x0
  have HRL := Lib.hid hy.r.1
  have HCL := Lib.hid hy.c.1
  have HKL := Lib.hid hKL
  have HXB := Lib.hid hxb
  have HXM : Hid (∀ i j, i < n → j < m → 0 ≤ x i j ∧ x i j ≤ 1000000) := Lib.hid (fun i j hi hj => by have := hxb i j hi hj; omega)
  have HRD := Lib.hid (rndBd (n := n) (m := m) (x := x) (by omega) (by omega) (fun i j hi hj => by have := hxb i j hi hj; omega))
  have HRS : Hid (∀ i, i < n → rowS m x i ≤ 70000) := Lib.hid (fun i hi => by
    have h := sm_le (n := m) (f := x i) (g := fun _ => 10000) (fun j hj => (hxb i j hi hj).2)
    have e : ∀ N : Nat, sm N (fun _ => (10000 : Int)) = N * 10000 := fun N => by
      induction N with
      | zero => rfl
      | succ N ih => simp only [sm]; rw [ih]; omega
    rw [e] at h
    show sm m (x i) ≤ 70000
    omega)
  have HCS : Hid (∀ j, j < m → colS n x j ≤ 70000) := Lib.hid (fun j hj => by
    have h := sm_le (n := n) (f := fun i => x i j) (g := fun _ => 10000) (fun i hi => (hxb i j hi hj).2)
    have e : ∀ N : Nat, sm N (fun _ => (10000 : Int)) = N * 10000 := fun N => by
      induction N with
      | zero => rfl
      | succ N ih => simp only [sm]; rw [ih]; omega
    rw [e] at h
    show sm n (fun i => x i j) ≤ 70000
    omega)
  have HPR : Hid (P → allR rs (-1000000) 1000000 = true) := Lib.hid (fun h => by
    rw [HPQ.out] at h
    refine allR_yes fun k hk => ?_
    rw [h.rl] at hk
    have h1 := h.nr k hk
    have h2 := near_nn hb2 (HRD.out.1 k hk).1 h1
    have h3 := h1.2.2
    have h4 := HRS.out k hk
    exact inR_yes (by omega) (by omega))
  have HPC : Hid (P → allR cs (-1000000) 1000000 = true) := Lib.hid (fun h => by
    rw [HPQ.out] at h
    refine allR_yes fun k hk => ?_
    rw [h.cl] at hk
    have h1 := h.nc k hk
    have h2 := near_nn hb2 (HRD.out.2.1 k hk).1 h1
    have h3 := h1.2.2
    have h4 := HCS.out k hk
    exact inR_yes (by omega) (by omega))
  have HPK : Hid (P → ∀ k, k < n → allR (K k) 0 1000000 = true) := Lib.hid (fun h k hk => by
    rw [HPQ.out] at h
    refine allR_yes fun q hq => ?_
    rw [h.sh k hk] at hq
    have h1 := h.cell k hk q hq
    have h0 := hxb k q hk hq
    have h2 := near_nn hb2 h0.1 h1
    have h3 := h1.2.2
    exact inR_yes h2 (by show fnL K k q ≤ 1000000; omega))
  clear hx hy hKL b0 x0 hP hxb
  go_enter Try.func60, Try.ntmps60
  go_wp2_with fail
  generalize w.alloc (.cells #[.slice X nx xc, .slice R nr rc, .slice C nc cc, .int .i64 t] 26) = w2 at *
  refine (oMargins_any n m A c x w2 HMX2.out hn1 (by omega) hm1 (by omega) HXM.out).mono ?_
  rintro e w3 ⟨p0, p1, p2, p3, OX, OR, OC, oxc, orc, occ, rfl, hO, hp0, b3⟩
  have HO3 := Lib.hid (hO.rnO (Nat.le_refl _)).read
  have HMX3 := Lib.hid (IntsS.below HMX2.out b3)
  have HY3 := Lib.hid (HY2.out.below b3)
  have B3 := Lib.hid (B2.out.trans (b3.mono B2.out.size))
  have X3 := Lib.hid (box_below X2.out b3)
  clear hO b3 HMX2 HY2 B2 X2 HXM hp0
  obtain ⟨ot, hot⟩ : ∃ ot, ot = totS n m x := ⟨_, rfl⟩
  have HOT := Lib.hid hot
  rw [← hot]
  have HTB : Hid (0 ≤ ot ∧ ot ≤ 100000000) := Lib.hid (by rw [HOT.out]; have h := HRD.out.2.2; omega)
  have b4 := below_new w3 (.cells #[.slice OX n oxc, .slice OR n orc, .slice OC m occ, .int .i64 ot] 26)
  have x4 := box_new w3 #[.slice OX n oxc, .slice OR n orc, .slice OC m occ, .int .i64 ot] 26
  have HO4 := Lib.hid (HO3.out.below b4)
  have HMX4 := Lib.hid (IntsS.below HMX3.out b4)
  have HY4 := Lib.hid (HY3.out.below b4)
  have B4 := Lib.hid (B3.out.trans (b4.mono B3.out.size))
  have X4 := Lib.hid (box_below X3.out b4)
  have XO4 := Lib.hid x4
  have y0 := box_cell X4.out 0 (.slice X nx xc) rfl
  have y1 := box_cell X4.out 1 (.slice R nr rc) rfl
  have y2 := box_cell X4.out 2 (.slice C nc cc) rfl
  have o1 := box_cell x4 1 (.slice OR n orc) rfl
  have o2 := box_cell x4 2 (.slice OC m occ) rfl
  obtain ⟨w4, HW4⟩ : ∃ w4, Hid (w4 = w3.alloc (.cells #[.slice OX n oxc, .slice OR n orc, .slice OC m occ, .int .i64 ot] 26)) := ⟨_, Lib.hid rfl⟩
  rw [← HW4.out] at HO4 HMX4 HY4 B4 X4 XO4 y0 y1 y2 o1 o2
  clear b4 x4 hot HO3 HMX3 HY3 B3 X3
  by_cases hnn : nx = n
  case neg =>
    have HN : Hid (¬ P) := Lib.hid (fun h => by rw [HPQ.out] at h; exact hnn h.hn)
    have q1 : ((nx : Int) != n) = true := by rw [bne_iff_ne]; omega
    clear hnn
    rw [HW4.out] at B4 y0
    clear y1 y2 o1 o2
    go_wp2
    go_ret
    exact RetV.no HN.out B4.out
  obtain rfl : n = nx := hnn.symm
  by_cases hr1 : nr = n
  case neg =>
    have HN : Hid (¬ P) := Lib.hid (fun h => by rw [HPQ.out] at h; exact hr1 (HRL.out.symm.trans h.rl))
    have q1 : ((nr : Int) != n) = true := by rw [bne_iff_ne]; omega
    clear hr1
    rw [HW4.out] at B4 y0 y1 o1
    clear y2 o2
    go_wp2
    go_ret
    exact RetV.no HN.out B4.out
  obtain rfl : n = nr := hr1.symm
  by_cases hc1 : nc = m
  case neg =>
    have HN : Hid (¬ P) := Lib.hid (fun h => by rw [HPQ.out] at h; exact hc1 (HCL.out.symm.trans h.cl))
    have q1 : ((nc : Int) != m) = true := by rw [bne_iff_ne]; omega
    clear hc1
    rw [HW4.out] at B4 y0 y1 y2 o1 o2
    go_wp2
    go_ret
    exact RetV.no HN.out B4.out
  obtain rfl : m = nc := hc1.symm
  clear hnn hr1 hc1
  rw [HW4.out] at y0 y1 y2 o1 o2
  go_wp2_with fail
  rw [← HW4.out] at y0 y1 y2 o1 o2 ⊢
  refine (l1All_any R n rc rs (-1000000) 1000000 _ HY4.out.r (by omega)).mono ?_
  rintro e w' ⟨rfl, rfl⟩
  cases ha1 : allR rs (-1000000) 1000000
  case false =>
    have HN : Hid (¬ P) := Lib.hid (fun h => by rw [HPR.out h] at ha1; cases ha1)
    clear ha1
    go_wp2
    go_ret
    exact RetV.no HN.out B4.out
  have HA1 := Lib.hid ha1
  clear ha1
  go_wp2_with fail
  refine (l1All_any C m cc cs (-1000000) 1000000 _ HY4.out.c (by omega)).mono ?_
  rintro e w' ⟨rfl, rfl⟩
  cases ha2 : allR cs (-1000000) 1000000
  case false =>
    have HN : Hid (¬ P) := Lib.hid (fun h => by rw [HPC.out h] at ha2; cases ha2)
    clear ha2
    go_wp2
    go_ret
    exact RetV.no HN.out B4.out
  have HA2 := Lib.hid ha2
  clear ha2 y1 y2 o1 o2
  go_wp2_with fail
  clear y0
  obtain ⟨ad, rfl, V0, cv0, r0, _⟩ := matR_row HMX4.out (show 0 < n by omega)
  have r0 : w4.cell? ad = some (.slice V0 m cv0) := by simpa [Addr.add] using r0
  obtain ⟨T4, hT4⟩ : ∃ T4, T4 = w3.heap.size := ⟨_, rfl⟩
  rw [← hT4] at XO4
  rw [← hT4]
  clear hT4 HW4
  go_loop [58] (fun iv => ∃ k : Nat, k ≤ n ∧ iv = .int .i64 k ∧ Hid (∀ i, i < k → (K i).length = m ∧ ∀ j, j < m → Near b (x i j) (fnL K i j))) (fun iv => n - (intOf iv).toNat)
  case atStart => exact ⟨0, Nat.zero_le _, rfl, Lib.hid (fun i hi => absurd hi (Nat.not_lt_zero _))⟩
  case round =>
    obtain ⟨k, hk, rfl, HA⟩ := hrel
    by_cases hlt : k < n
    case pos =>
      obtain ⟨ad', eA', V, cv, p1, hv⟩ := matR_row HMX4.out hlt
      obtain rfl : ad = ad' := Option.some.inj eA'
      obtain ⟨av, rfl, _⟩ := vecR_at hv (show 0 < m by omega)
      have HV := Lib.hid hv
      obtain ⟨ay, hay, W, wv, p2, hw⟩ := HY4.out.x.at_ hlt
      subst hay
      have HW := Lib.hid hw
      have HSK := Lib.hid (HKL.out k hlt)
      clear hv hw eA'
      by_cases hkm : (K k).length = m
      case neg =>
        have HN : Hid (¬ P) := Lib.hid (fun h => by rw [HPQ.out] at h; exact hkm (h.sh k hlt))
        have q1 : (((K k).length : Int) != m) = true := by rw [bne_iff_ne]; omega
        clear hkm p1
        generalize (K k).length = km at *
        go_wp2
        go_ret
        exact RetV.no HN.out B4.out
      have HKM := Lib.hid hkm
      rw [hkm] at p2
      replace HW : Hid (Ints w4 W m (K k)) := Lib.hid (by have h := HW.out; rw [hkm] at h; exact h)
      clear hkm
      go_wp2_with fail
      refine (l1All_any W m wv (K k) 0 1000000 _ HW.out (by omega)).mono ?_
      rintro e w' ⟨rfl, rfl⟩
      cases ha3 : allR (K k) 0 1000000
      case false =>
        have HN : Hid (¬ P) := Lib.hid (fun h => by rw [HPK.out h k hlt] at ha3; cases ha3)
        clear ha3 p1 p2
        go_wp2
        go_ret
        exact RetV.no HN.out B4.out
      have HA3 := Lib.hid (allR_of ha3)
      clear ha3 p2
      obtain ⟨aw, rfl, _⟩ := HW.out.at_ (show 0 < m by omega)
      go_wp2_with fail
      go_loop [77] (fun iv => ∃ q : Nat, q ≤ m ∧ iv = .int .i64 q ∧ Hid (∀ j, j < q → Near b (x k j) (fnL K k j))) (fun iv => m - (intOf iv).toNat)
      case atStart => exact ⟨0, Nat.zero_le _, rfl, Lib.hid (fun i hi => absurd hi (Nat.not_lt_zero _))⟩
      case round =>
        obtain ⟨q, hq, rfl, HQ⟩ := hrel
        by_cases hlq : q < m
        case pos =>
          obtain ⟨av', eV, p3⟩ := vecR_at HV.out hlq
          obtain rfl : av = av' := Option.some.inj eV
          obtain ⟨aw', eW, p4⟩ := HW.out.at_ hlq
          obtain rfl : aw = aw' := Option.some.inj eW
          obtain ⟨hxv0, hxv1⟩ := HXB.out k q hlt hlq
          obtain ⟨hyv0, hyv1⟩ := HA3.out q (by rw [HKM.out]; exact hlq)
          obtain ⟨xv, hxe⟩ : ∃ xv, Hid (xv = x k q) := ⟨_, Lib.hid rfl⟩
          obtain ⟨yv, hye⟩ : ∃ yv, Hid (yv = fnL K k q) := ⟨_, Lib.hid rfl⟩
          rw [← hxe.out] at p3 hxv0 hxv1
          rw [show (K k)[q]?.getD 0 = yv from hye.out.symm] at p4 hyv0 hyv1
          clear eV eW
          go_wp2_with fail
          refine (oNear_any xv b yv _ hb2 hb100 hxv0 (by omega) (by omega) (by omega)).mono ?_
          rintro e w' ⟨rfl, rfl⟩
          cases hnb : nearB b xv yv
          case false =>
            have HN : Hid (¬ P) := Lib.hid (fun h => by
              rw [HPQ.out] at h
              have h2 := h.cell k hlt q hlq
              rw [← hxe.out, ← hye.out] at h2
              rw [nearB_iff.2 h2] at hnb
              cases hnb)
            clear hnb p3 p4
            go_wp2
            go_ret
            exact RetV.no HN.out B4.out
          case true =>
            have HQ2 : Hid (∀ j, j < q + 1 → Near b (x k j) (fnL K k j)) := Lib.hid (fun j hj => by
              by_cases e : j = q
              · subst e; have h2 := nearB_iff.1 hnb; rw [hxe.out, hye.out] at h2; exact h2
              · exact HQ.out j (by omega))
            clear hnb p3 p4
            go_wp2
            go_roundw
            case rel => exact ⟨q + 1, by omega, by go_num, HQ2⟩
            case measure => simp [intOf]; omega
        case neg =>
          have HA2 : Hid (∀ i, i < k + 1 → (K i).length = m ∧ ∀ j, j < m → Near b (x i j) (fnL K i j)) := Lib.hid (fun i hi => by
            by_cases e : i = k
            · subst e; exact ⟨HKM.out, fun j hj => HQ.out j (by omega)⟩
            · exact HA.out i (by omega))
          go_wp2
          go_roundw
          case rel => exact ⟨k + 1, by omega, by go_num, HA2⟩
          case measure => simp [intOf]; omega
    case neg =>
      have HSH : Hid (∀ i, i < n → (K i).length = m) := Lib.hid (fun i hi => (HA.out i (by omega)).1)
      have HC : Hid (∀ i, i < n → ∀ j, j < m → Near b (x i j) (fnL K i j)) := Lib.hid (fun i hi => (HA.out i (by omega)).2)
      have HYB : Hid (∀ i j, i < n → j < m → 0 ≤ fnL K i j ∧ fnL K i j ≤ 1000000) := Lib.hid (fun i j hi hj => by
        have h1 := HC.out i hi j hj
        have h2 := HXB.out i j hi hj
        have h3 := near_nn hb2 h2.1 h1
        have h4 := h1.2.2
        omega)
      have HMY : Hid (MatR w4 X n m (fnL K)) := Lib.hid (IntsS.fn HY4.out.x (fun i hi => (fnL_lst HSH.out i hi).symm))
      have c0 := box_cell X4.out 0 (.slice X n xc) rfl
      clear HA r0
      go_wp2_with fail
      refine (oMargins_any n m X xc (fnL K) w4 HMY.out hn1 (by omega) hm1 (by omega) HYB.out).mono ?_
      rintro e w5 ⟨s0, s1, s2, s3, SX, SR, SC, sxc, src, scc, rfl, hO, _, b5⟩
      have HS5 := Lib.hid (hO.rnO (Nat.le_refl _)).read
      have HO5 := Lib.hid (HO4.out.below b5)
      have HY5 := Lib.hid (HY4.out.below b5)
      have B5 := Lib.hid (B4.out.trans (b5.mono B4.out.size))
      have X5 := Lib.hid (box_below X4.out b5)
      have XO5 := Lib.hid (box_below XO4.out b5)
      obtain ⟨st, hst⟩ : ∃ st, st = totS n m (fnL K) := ⟨_, rfl⟩
      have HST := Lib.hid hst
      rw [← hst]
      have HSTB : Hid (0 ≤ st ∧ st ≤ 64000000) := Lib.hid (by rw [HST.out]; exact (rndBd (n := n) (m := m) (x := fnL K) (by omega) (by omega) HYB.out).2.2)
      clear hO b5 HMX4 HY4 B4 X4 XO4 HMY HO4 c0 hst
      have y1 := box_cell X5.out 1 (.slice R n rc) rfl
      have y2 := box_cell X5.out 2 (.slice C m cc) rfl
      have y3 := box_cell X5.out 3 (.int .i64 t) rfl
      have l5 := lt_of_block X5.out
      have o3 := box_cell XO5.out 3 (.int .i64 ot) rfl
      have l6 := lt_of_block XO5.out
      go_wp2_with fail
      have b6 := below_new w5 (.cells #[.slice SX n sxc, .slice SR n src, .slice SC m scc, .int .i64 st] 26)
      have x6 := box_new w5 #[.slice SX n sxc, .slice SR n src, .slice SC m scc, .int .i64 st] 26
      have HS6 := Lib.hid (HS5.out.below b6)
      have HO6 := Lib.hid (HO5.out.below b6)
      have HY6 := Lib.hid (HY5.out.below b6)
      have B6 := Lib.hid (B5.out.trans (b6.mono B5.out.size))
      have X6 := Lib.hid (box_below X5.out b6)
      have XO6 := Lib.hid (box_below XO5.out b6)
      obtain ⟨T6, hT6⟩ : ∃ T6, T6 = w5.heap.size := ⟨_, rfl⟩
      rw [← hT6] at x6
      have XS6 := Lib.hid x6
      clear b6 x6 HS5 HO5 HY5 B5 X5 XO5 y1 y2 y3 l5 o3 l6
      generalize w5.alloc (.cells #[.slice SX n sxc, .slice SR n src, .slice SC m scc, .int .i64 st] 26) = w6 at *
      rw [← hT6]
      clear hT6
      refine (l1SameI_any SR R n src rc (lst n (rowS m (fnL K))) rs w6 HS6.out.r HY6.out.r (by omega)).mono ?_
      rintro e w7 ⟨rfl, b7⟩
      have HS7 := Lib.hid (HS6.out.below b7)
      have HO7 := Lib.hid (HO6.out.below b7)
      have HY7 := Lib.hid (HY6.out.below b7)
      have B7 := Lib.hid (B6.out.trans (b7.mono B6.out.size))
      have X7 := Lib.hid (box_below X6.out b7)
      have XO7 := Lib.hid (box_below XO6.out b7)
      have XS7 := Lib.hid (box_below XS6.out b7)
      clear b7 HS6 HO6 HY6 B6 X6 XO6 XS6
      cases he1 : (lst n (rowS m (fnL K)) == rs)
      case false =>
        have HN : Hid (¬ P) := Lib.hid (fun h => by
          rw [HPQ.out] at h
          rw [← h.er, beq_self_eq_true] at he1
          cases he1)
        clear he1
        go_wp2
        go_ret
        exact RetV.no HN.out B7.out
      have HE1 := Lib.hid (eq_of_beq he1).symm
      clear he1
      have y2 := box_cell X7.out 2 (.slice C m cc) rfl
      have s2 := box_cell XS7.out 2 (.slice SC m scc) rfl
      go_wp2_with fail
      refine (l1SameI_any SC C m scc cc (lst m (colS n (fnL K))) cs w7 HS7.out.c HY7.out.c (by omega)).mono ?_
      rintro e w8 ⟨rfl, b8⟩
      have HO8 := Lib.hid (HO7.out.below b8)
      have HY8 := Lib.hid (HY7.out.below b8)
      have B8 := Lib.hid (B7.out.trans (b8.mono B7.out.size))
      have X8 := Lib.hid (box_below X7.out b8)
      have XO8 := Lib.hid (box_below XO7.out b8)
      have XS8 := Lib.hid (box_below XS7.out b8)
      clear b8 HS7 HO7 HY7 B7 X7 XO7 XS7 y2 s2
      cases he2 : (lst m (colS n (fnL K)) == cs)
      case false =>
        have HN : Hid (¬ P) := Lib.hid (fun h => by
          rw [HPQ.out] at h
          rw [← h.ec, beq_self_eq_true] at he2
          cases he2)
        clear he2
        go_wp2
        go_ret
        exact RetV.no HN.out B8.out
      have HE2 := Lib.hid (eq_of_beq he2).symm
      clear he2
      have y3 := box_cell X8.out 3 (.int .i64 t) rfl
      have s3 := box_cell XS8.out 3 (.int .i64 st) rfl
      by_cases he3 : st = t
      case neg =>
        have HN : Hid (¬ P) := Lib.hid (fun h => by
          rw [HPQ.out] at h
          exact he3 (HST.out.trans h.tt.symm))
        have q3 : (st != t) = true := by rw [bne_iff_ne]; exact he3
        clear he3
        go_wp2
        go_ret
        exact RetV.no HN.out B8.out
      have HE3 : Hid (t = totS n m (fnL K)) := Lib.hid (he3.symm.trans HST.out)
      subst he3
      have o3 := box_cell XO8.out 3 (.int .i64 ot) rfl
      obtain ⟨hot0, hot1⟩ := HTB.out
      obtain ⟨hst0, hst1⟩ := HSTB.out
      go_wp2_with fail
      refine (oNear_any ot b st _ hb2 hb100 hot0 hot1 (by omega) (by omega)).mono ?_
      rintro e w' ⟨rfl, rfl⟩
      cases hnb : nearB b ot st
      case false =>
        have HN : Hid (¬ P) := Lib.hid (fun h => by
          rw [HPQ.out] at h
          have h2 := h.nt
          rw [← HOT.out] at h2
          rw [nearB_iff.2 h2] at hnb
          cases hnb)
        clear hnb s3 y3 o3
        go_wp2
        go_ret
        exact RetV.no HN.out B8.out
      have HNT : Hid (Near b (totS n m x) st) := Lib.hid (by rw [← HOT.out]; exact nearB_iff.1 hnb)
      clear hnb s3 y3 o3
      have y1 := box_cell X8.out 1 (.slice R n rc) rfl
      go_wp2_with fail
      clear y1
      go_loop [131] (fun iv => ∃ k : Nat, k ≤ n ∧ iv = .int .i64 k ∧ Hid (∀ i, i < k → Near b (rowS m x i) (rs[i]?.getD 0))) (fun iv => n - (intOf iv).toNat)
      case atStart => exact ⟨0, Nat.zero_le _, rfl, Lib.hid (fun i hi => absurd hi (Nat.not_lt_zero _))⟩
      case round =>
        obtain ⟨k, hk, rfl, HA⟩ := hrel
        by_cases hlt : k < n
        case pos =>
          obtain ⟨ao, rfl, p1⟩ := vecR_at HO8.out.r hlt
          obtain ⟨ar, rfl, p2⟩ := HY8.out.r.at_ hlt
          have o1 := box_cell XO8.out 1 (.slice (some ao) n orc) rfl
          obtain ⟨hxv0, hxv1⟩ := HRD.out.1 k hlt
          obtain ⟨hyv0, hyv1⟩ := allR_of HA1.out k (by rw [HRL.out]; exact hlt)
          obtain ⟨xv, hxe⟩ : ∃ xv, Hid (xv = rowS m x k) := ⟨_, Lib.hid rfl⟩
          obtain ⟨yv, hye⟩ : ∃ yv, Hid (yv = rs[k]?.getD 0) := ⟨_, Lib.hid rfl⟩
          rw [← hxe.out] at p1 hxv0 hxv1
          rw [← hye.out] at p2 hyv0 hyv1
          go_wp2_with fail
          refine (oNear_any xv b yv _ hb2 hb100 hxv0 (by omega) (by omega) (by omega)).mono ?_
          rintro e w' ⟨rfl, rfl⟩
          cases hnb : nearB b xv yv
          case false =>
            have HN : Hid (¬ P) := Lib.hid (fun h => by
              rw [HPQ.out] at h
              have h2 := h.nr k hlt
              rw [← hxe.out, ← hye.out] at h2
              rw [nearB_iff.2 h2] at hnb
              cases hnb)
            clear hnb p1 p2 o1
            go_wp2
            go_ret
            exact RetV.no HN.out B8.out
          case true =>
            have HQ2 : Hid (∀ j, j < k + 1 → Near b (rowS m x j) (rs[j]?.getD 0)) := Lib.hid (fun j hj => by
              by_cases e : j = k
              · subst e; have h2 := nearB_iff.1 hnb; rw [hxe.out, hye.out] at h2; exact h2
              · exact HA.out j (by omega))
            clear hnb p1 p2 o1
            go_wp2
            go_roundw
            case rel => exact ⟨k + 1, by omega, by go_num, HQ2⟩
            case measure => simp [intOf]; omega
        case neg =>
          have HR : Hid (∀ i, i < n → Near b (rowS m x i) (rs[i]?.getD 0)) := Lib.hid (fun i hi => HA.out i (by omega))
          have y2 := box_cell X8.out 2 (.slice C m cc) rfl
          clear HA
          go_wp2_with fail
          clear y2
          go_loop [149] (fun iv => ∃ k : Nat, k ≤ m ∧ iv = .int .i64 k ∧ Hid (∀ i, i < k → Near b (colS n x i) (cs[i]?.getD 0))) (fun iv => m - (intOf iv).toNat)
          case atStart => exact ⟨0, Nat.zero_le _, rfl, Lib.hid (fun i hi => absurd hi (Nat.not_lt_zero _))⟩
          case round =>
            obtain ⟨q, hq, rfl, HA⟩ := hrel
            by_cases hlq : q < m
            case pos =>
              obtain ⟨ao, rfl, p1⟩ := vecR_at HO8.out.c hlq
              obtain ⟨ar, rfl, p2⟩ := HY8.out.c.at_ hlq
              have o2 := box_cell XO8.out 2 (.slice (some ao) m occ) rfl
              obtain ⟨hxv0, hxv1⟩ := HRD.out.2.1 q hlq
              obtain ⟨hyv0, hyv1⟩ := allR_of HA2.out q (by rw [HCL.out]; exact hlq)
              obtain ⟨xv, hxe⟩ : ∃ xv, Hid (xv = colS n x q) := ⟨_, Lib.hid rfl⟩
              obtain ⟨yv, hye⟩ : ∃ yv, Hid (yv = cs[q]?.getD 0) := ⟨_, Lib.hid rfl⟩
              rw [← hxe.out] at p1 hxv0 hxv1
              rw [← hye.out] at p2 hyv0 hyv1
              go_wp2_with fail
              refine (oNear_any xv b yv _ hb2 hb100 hxv0 (by omega) (by omega) (by omega)).mono ?_
              rintro e w' ⟨rfl, rfl⟩
              cases hnb : nearB b xv yv
              case false =>
                have HN : Hid (¬ P) := Lib.hid (fun h => by
                  rw [HPQ.out] at h
                  have h2 := h.nc q hlq
                  rw [← hxe.out, ← hye.out] at h2
                  rw [nearB_iff.2 h2] at hnb
                  cases hnb)
                clear hnb p1 p2 o2
                go_wp2
                go_ret
                exact RetV.no HN.out B8.out
              case true =>
                have HQ2 : Hid (∀ j, j < q + 1 → Near b (colS n x j) (cs[j]?.getD 0)) := Lib.hid (fun j hj => by
                  by_cases e : j = q
                  · subst e; have h2 := nearB_iff.1 hnb; rw [hxe.out, hye.out] at h2; exact h2
                  · exact HA.out j (by omega))
                clear hnb p1 p2 o2
                go_wp2
                go_roundw
                case rel => exact ⟨q + 1, by omega, by go_num, HQ2⟩
                case measure => simp [intOf]; omega
            case neg =>
              have HPF : Hid P := Lib.hid (by
                rw [HPQ.out]
                exact ⟨rfl, HSH.out, HRL.out, HCL.out, HC.out, HE1.out, HE2.out, HE3.out, HR.out, (fun i hi => HA.out i (by omega)), HNT.out⟩)
              clear HA
              go_wp2
              go_ret
              exact RetV.yes HPF.out B8.out

set_option maxRecDepth 100000 in
set_option maxHeartbeats 4000000 in
theorem specIsRnd_any (A X R C : Option Addr) (n c nx xc nr rc nc cc : Nat) (b t : Int) (L K : Nat → List Int) (rs cs : List Int) (w : World) (hx : IntsS w A n L) (hy : RnR w X R C nx nr nc K rs cs) (hn : n ≤ 1099511627776) (hL : ∀ j, j < n → (L j).length ≤ 1099511627776) (hnx : nx ≤ 1099511627776) (hnr : nr ≤ 1099511627776) (hnc : nc ≤ 1099511627776) (hKL : ∀ j, j < nx → (K j).length ≤ 1099511627776) :
    Calls Try.prog 20 #[.slice A n c, .int .i64 b, .agg #[.slice X nx xc, .slice R nr rc, .slice C nc cc, .int .i64 t]] w (RetB w (inR b 2 100 && mxB n L) (RndQ n L b nx K rs cs t)) := by
  obtain ⟨P, hP⟩ : ∃ P : Prop, Hid (P = RndQ n L b nx K rs cs t) := ⟨_, Lib.hid rfl⟩
  rw [← hP.out]
  have b0 := below_new w (.cells #[.slice X nx xc, .slice R nr rc, .slice C nc cc, .int .i64 t] 26)
  have x0 := box_new w #[.slice X nx xc, .slice R nr rc, .slice C nc cc, .int .i64 t] 26
  have HX1 := Lib.hid (IntsS.below hx b0)
  have HY1 := Lib.hid (hy.below b0)
  have B0 := Lib.hid b0
  have X0 := Lib.hid x0
  have HL := Lib.hid hL
  have HKL := Lib.hid hKL
  clear hx hy hL b0 x0 hKL
  go_enter Try.func20, Try.ntmps20
  go_wp2_with fail
  generalize w.alloc (.cells #[.slice X nx xc, .slice R nr rc, .slice C nc cc, .int .i64 t] 26) = w1 at *
  refine (oGood_any A n c b L _ HX1.out hn HL.out).mono ?_
  rintro e w' ⟨rfl, rfl⟩
  cases hg : (inR b 2 100 && mxB n L)
  case false =>
    have HN : Hid (¬ P) := Lib.hid (fun h => by rw [hP.out] at h; have h1 := h.1; rw [hg] at h1; cases h1)
    have HG := Lib.hid hg
    clear hg
    go_wp2
    go_ret2
    rw [HG.out]
    exact RetB.no HN.out B0.out
  case true =>
    have hg2 := hg
    rw [Bool.and_eq_true] at hg2
    obtain ⟨hB, hm⟩ := hg2
    obtain ⟨hn1, hn7, hm1, hm7, hsh, hxb⟩ := mxB_of hm
    obtain ⟨hb2, hb100⟩ := inR_of hB
    have HMX : Hid (MatR w1 A n (L 0).length (fnL L)) := Lib.hid (matR_of HX1.out hsh)
    have HPE : Hid (IsRnd n (L 0).length b (fnL L) nx K rs cs t = P) := Lib.hid (by rw [hP.out]; unfold RndQ; rw [hg]; simp)
    have HXB : Hid (∀ i j, i < n → j < (L 0).length → 0 ≤ fnL L i j ∧ fnL L i j ≤ 10000) := Lib.hid hxb
    have HG := Lib.hid hg
    clear hg hB hm hsh hxb
    have c0 := box_cell X0.out 0 (.slice X nx xc) rfl
    have c1 := box_cell X0.out 1 (.slice R nr rc) rfl
    have c2 := box_cell X0.out 2 (.slice C nc cc) rfl
    have c3 := box_cell X0.out 3 (.int .i64 t) rfl
    go_wp2_with fail
    refine (oRounds_any A X R C n (L 0).length c nx xc nr rc nc cc b t (fnL L) K rs cs w1 HMX.out HY1.out hn1 hn7 hm1 hm7 hb2 hb100 HXB.out hnx hnr hnc HKL.out).mono ?_
    rintro e w2 ⟨⟨v, rfl, hv⟩, b2⟩
    rw [HPE.out] at hv
    have HV := Lib.hid hv
    have B2 := Lib.hid (B0.out.trans (b2.mono B0.out.size))
    clear hv b2 c0 c1 c2 c3
    go_wp2
    go_ret2
    rw [HG.out]
    exact ⟨⟨v, rfl, HV.out⟩, B2.out⟩
end Go.Proofs.Ytcjmapdeopffcaa
