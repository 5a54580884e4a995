/- The greatest deviation. -/
import Derived.Test.YtcjmapdeopffcaaSdE
import Derived.BigQuiet
namespace Go.Proofs.Ytcjmapdeopffcaa
open Go.RowKit Flo
set_option linter.unusedVariables false

set_option maxRecDepth 100000 in
set_option maxHeartbeats 4000000 in
theorem worst_any (A X R C : Option Addr) (n c xc nr rc nc cc : Nat) (b t : Int) (L K : Nat → List Int) (w : World) (hx : IntsS w A n L) (hy : IntsS w X n K) (hm : mxB n L = true) (hb2 : 2 ≤ b) (hb100 : b ≤ 100) (hsh : ∀ i, i < n → (K i).length = (L 0).length) (hnear : ∀ i, i < n → ∀ j, j < (L 0).length → Near b (fnL L i j) (fnL K i j)) :
    Calls Try.prog 18 #[.slice A n c, .agg #[.slice X n xc, .slice R nr rc, .slice C nc cc, .int .i64 t]] w fun e w' => ∃ wd sd : Int, e = .returned (.tuple #[.int .i64 wd, .int .i64 sd, .bool true]) ∧ wd < b ∧ wd ≤ sd ∧ Below w.heap.size w w' := by
  have b0 := below_new w (.cells #[.slice X n xc, .slice R nr rc, .slice C nc cc, .int .i64 t] 26)
  have x0 := box_new w #[.slice X n xc, .slice R nr rc, .slice C nc cc, .int .i64 t] 26
  obtain ⟨hn1, hn7, hm1, hm7, hLsh, hxb⟩ := mxB_of hm
  have HX1 := Lib.hid (IntsS.below hx b0)
  have HY1 := Lib.hid (IntsS.below hy b0)
  have B0 := Lib.hid b0
  have X0 := Lib.hid x0
  have HMX1 : Hid (MatR _ A n (L 0).length (fnL L)) := Lib.hid (matR_of HX1.out hLsh)
  have HMY1 : Hid (MatR _ X n (L 0).length (fnL K)) := Lib.hid (matR_of HY1.out hsh)
  have HXB : Hid (∀ i, i < n → ∀ j, j < (L 0).length → 0 ≤ fnL L i j ∧ fnL L i j ≤ 10000) := Lib.hid (fun i hi j hj => hxb i j hi hj)
  have HYB : Hid (∀ i, i < n → ∀ j, j < (L 0).length → 0 ≤ fnL K i j ∧ fnL K i j ≤ 20000) := Lib.hid (fun i hi j hj => by
    have h1 := hnear i hi j hj
    have h2 := HXB.out i hi j hj
    have h3 := near_nn hb2 h2.1 h1
    have h4 := h1.2.2
    omega)
  have HNE := Lib.hid hnear
  have QM : Hid (∀ W, IntsS W A n L → Calls Try.prog 36 #[.slice A n c] W fun e w' => e = .returned (.bool true) ∧ w' = W) := Lib.hid (fun W h => (isMatrix_any A n c L W h (by omega) (fun j hj => by rw [hLsh j hj]; omega)).mono fun _ _ ⟨h1, h2⟩ => ⟨by rw [h1, hm], h2.symm⟩)
  have QS : Hid (∀ W, IntsS W X n K → Calls Try.prog 52 #[.slice X n xc, .int .i64 n, .int .i64 (L 0).length] W fun e w' => e = .returned (.bool true) ∧ w' = W) := Lib.hid (fun W h => (hasShape_any X n xc n (L 0).length K W h (by omega)).mono fun _ _ ⟨h1, h2⟩ => ⟨by rw [h1, shB_yes hsh, decide_eq_true rfl]; rfl, h2.symm⟩)
  have QG : Hid (∀ W, IntsS W X n K → Calls Try.prog 56 #[.slice X n xc, .int .i64 20000] W fun e w' => e = .returned (.bool true) ∧ w' = W) := Lib.hid (fun W h => (isGridOf_any X n xc 20000 K W h (by omega) (fun j hj => by rw [hsh j hj]; omega)).mono fun _ _ ⟨h1, h2⟩ => ⟨by
    rw [h1, gridB_yes (by omega) (by rw [hsh 0 (by omega)]; omega) (shB_yes fun i hi => by rw [hsh i hi, hsh 0 (by omega)]) (fun i hi => allR_yes fun k hk => by
      rw [hsh i hi] at hk
      have h5 := HYB.out i hi k hk
      exact inR_yes h5.1 h5.2)], h2.symm⟩)
  clear hx hy b0 x0 hxb hnear hLsh hsh hm
  obtain ⟨m, hme⟩ : ∃ m, (L 0).length = m := ⟨_, rfl⟩
  rw [hme] at hm1 hm7 HMX1 HMY1 HXB HYB HNE QS
  clear hme
  go_enter Try.func18, Try.ntmps18
  obtain ⟨ad, rfl, V0, cv0, r0, _⟩ := matR_row HMX1.out (show 0 < n by omega)
  obtain ⟨ay, rfl, _⟩ := matR_row HMY1.out (show 0 < n by omega)
  obtain ⟨w1, HW1⟩ : ∃ w1, Hid (w1 = w.alloc (.cells #[.slice (some ay) n xc, .slice R nr rc, .slice C nc cc, .int .i64 t] 26)) := ⟨_, Lib.hid rfl⟩
  rw [← HW1.out] at HX1 HY1 B0 X0 HMX1 HMY1 r0
  have r0 : w1.cell? ad = some (.slice V0 m cv0) := by simpa [Addr.add] using r0
  have c0 := box_cell X0.out 0 (.slice (some ay) n xc) rfl
  rw [HW1.out] at r0 c0
  go_wp2
  rw [← HW1.out] at r0 c0 ⊢
  go_quiet ((first | (go_at_call 36; with_reducible exact Calls.quiet_of_same (QM.out _ (IntsS.drewN HX1.out _))) | (go_at_call 52; with_reducible exact Calls.quiet_of_same (QS.out _ (IntsS.drewN HY1.out _))) | (go_at_call 56; with_reducible exact Calls.quiet_of_same (QG.out _ (IntsS.drewN HY1.out _)))))
  clear r0 c0 QM QG QS HX1 HY1 HW1
  go_wp2_with fail
  go_loopw [7, 8, 37] (fun wv sv iv wr => ∃ (k q : Nat) (wd sd : Int), k ≤ n ∧ iv = .int .i64 k ∧ wv = .int .i64 wd ∧ sv = .int .i64 sd ∧ 0 ≤ wd ∧ wd < b ∧ wd ≤ sd ∧ sd ≤ 1000 * k ∧ wr = w1.drewN q) (fun _ _ iv _ => n - (intOf iv).toNat)
  case atStart => exact ⟨0, nq, 0, 0, Nat.zero_le _, rfl, rfl, rfl, by omega, by omega, by omega, by omega, rfl⟩
  case round =>
    obtain ⟨k, z, wd, sd, hk, rfl, rfl, rfl, h1, h2, h3, h4, rfl⟩ := hrel
    by_cases hlt : k < n
    case pos =>
      obtain ⟨ad', eA', V, cv, p1, hv⟩ := matR_row HMX1.out hlt
      obtain rfl : ad = ad' := Option.some.inj eA'
      obtain ⟨av, rfl, _⟩ := vecR_at hv (show 0 < m by omega)
      obtain ⟨ay', eY', W, wv, p2, hw⟩ := matR_row HMY1.out hlt
      obtain rfl : ay = ay' := Option.some.inj eY'
      obtain ⟨aw, rfl, _⟩ := vecR_at hw (show 0 < m by omega)
      have HV := Lib.hid hv
      have HW := Lib.hid hw
      have P2 := Lib.hid p2
      clear hv hw eA' eY' p2
      replace p1 : (w1.drewN z).cell? (ad.add k) = some (.slice (some av) m cv) := p1
      go_wp2_with fail
      clear p1
      go_loopw [7, 8, 44] (fun wv sv iv wr => ∃ (q z : Nat) (wd sd : Int), q ≤ m ∧ iv = .int .i64 q ∧ wv = .int .i64 wd ∧ sv = .int .i64 sd ∧ 0 ≤ wd ∧ wd < b ∧ wd ≤ sd ∧ sd ≤ 1000 * k + 100 * q ∧ wr = w1.drewN z) (fun _ _ iv _ => m - (intOf iv).toNat)
      case atStart => exact ⟨0, z, wd, sd, Nat.zero_le _, rfl, rfl, rfl, h1, h2, h3, by omega, rfl⟩
      case round =>
        clear h1 h2 h3 h4
        obtain ⟨q, z, wd, sd, hq, rfl, rfl, rfl, h1, h2, h3, h4, rfl⟩ := hrel
        by_cases hlq : q < m
        case pos =>
          obtain ⟨av', eV, p3⟩ := vecR_at HV.out hlq
          obtain rfl : av = av' := Option.some.inj eV
          obtain ⟨aw', eW, p4⟩ := vecR_at HW.out hlq
          obtain rfl : aw = aw' := Option.some.inj eW
          obtain ⟨hxv0, hxv1⟩ := HXB.out k hlt q hlq
          obtain ⟨hyv0, hyv1⟩ := HYB.out k hlt q hlq
          obtain ⟨_, hn2, hn3⟩ := HNE.out k hlt q hlq
          obtain ⟨xv, hxe⟩ : ∃ xv, Hid (xv = fnL L k q) := ⟨_, Lib.hid rfl⟩
          obtain ⟨yv, hye⟩ : ∃ yv, Hid (yv = fnL K k q) := ⟨_, Lib.hid rfl⟩
          rw [← hxe.out] at p3 hxv0 hxv1 hn2 hn3
          rw [← hye.out] at p4 hyv0 hyv1 hn2 hn3
          have p2 := P2.out
          have c0 := box_cell X0.out 0 (.slice (some ay) n xc) rfl
          have p3' : (w1.drewN z).cell? (av.add q) = some (.int .i64 xv) := p3
          have p4' : (w1.drewN z).cell? (aw.add q) = some (.int .i64 yv) := p4
          have p2' : (w1.drewN z).cell? (ay.add k) = some (.slice (some aw) m wv) := p2
          have c0' : (w1.drewN z).cell? ⟨w.heap.size, 0, none⟩ = some (.slice (some ay) n xc) := c0
          clear eV eW
          obtain ⟨d, hd⟩ : ∃ d, Hid (d = max (xv - yv) (yv - xv)) := ⟨_, Lib.hid rfl⟩
          have hd0 : 0 ≤ d := by rw [hd.out]; omega
          have hd1 : d < b := by rw [hd.out]; omega
          go_wp2
          go_region
          rw [← hd.out]
          clear p2 p3 p4 c0 p2' p3' p4' c0'
          go_wp2
          go_roundw
          case rel => exact ⟨q + 1, z + 1, max wd d, sd + d, by omega, by go_num, rfl, rfl, by omega, by omega, by omega, by omega, rfl⟩
          case measure => simp [intOf]; omega
        case neg =>
          obtain rfl : m = q := by omega
          go_wp2
          go_roundw
          case rel => exact ⟨k + 1, z, wd, sd, by omega, by go_num, rfl, rfl, h1, h2, h3, by omega, rfl⟩
          case measure => simp [intOf]; omega
    case neg =>
      have HBF : Hid (Below w.heap.size w (w1.drewN z)) := Lib.hid (below_drewN B0.out z)
      clear h4
      go_wp2
      go_ret3
      exact ⟨wd, sd, rfl, h2, h3, HBF.out⟩
end Go.Proofs.Ytcjmapdeopffcaa
