/- Several small texts in one: PuI, PuJ, PuK, PuL, PuM. -/
import Derived.Test.YtcjmapdeopffcaaPuH
import Derived.Test.YtcjmapdeopffcaaHd
namespace Go.Proofs.Ytcjmapdeopffcaa

section
open Go.RowKit Flo
set_option linter.unusedVariables false

set_option maxRecDepth 100000 in
set_option maxHeartbeats 2000000 in
theorem slEqI_any (A B : Option Addr) (n c d : Nat) (xs ys : List Int) (w : World) (hx : Ints w A n xs) (hy : Ints w B n ys) (hn : n ≤ 1099511627776) :
    Calls Try.prog 55 #[.slice A n c, .slice B n d] w fun e w' => e = .returned (.bool (xs == ys)) ∧ Below w.heap.size w w' := by
  have hl1 := Lib.hid hx.1
  have hl2 := Lib.hid hy.1
  go_enter Try.func55, Try.ntmps55
  go_wp2
  go_loopw [13] (fun i wr => ∃ (k q : Nat), k ≤ n ∧ i = .int .i64 k ∧ Hid (∀ t, t < k → xs[t]?.getD 0 = ys[t]?.getD 0) ∧ wr = w.drewN q) (fun i _ => n - (intOf i).toNat)
  case atStart => exact ⟨0, 0, Nat.zero_le _, rfl, Lib.hid (fun t ht => absurd ht (by omega)), rfl⟩
  case round =>
    obtain ⟨k, q, hk, rfl, he, rfl⟩ := hrel
    by_cases hlt : k < n
    · obtain ⟨ad, rfl, hc⟩ := hx.at_ hlt
      obtain ⟨ad', rfl, hc'⟩ := hy.at_ hlt
      have HN := Lib.hid (fun (h : ¬ xs[k]?.getD 0 = ys[k]?.getD 0) => show false = (xs == ys) by symm; rw [beq_eq_false_iff_ne]; intro h9; exact h (by rw [h9]))
      have HA := Lib.hid (fun (h : xs[k]?.getD 0 = ys[k]?.getD 0) => (show ∀ t, t < k + 1 → xs[t]?.getD 0 = ys[t]?.getD 0 from fun t ht => by
        rcases Nat.lt_or_ge t k with h1 | h1
        · exact he.out t h1
        · obtain rfl : t = k := by omega
          exact h))
      clear hx hy he
      generalize xs[k]?.getD 0 = x at *
      generalize ys[k]?.getD 0 = y at *
      by_cases hxy : x = y
      · have HA2 := Lib.hid (HA.out hxy)
        clear HA HN
        subst hxy
        go_wp2
        go_quiet (fail)
        go_wp2
        go_roundw
        case rel => exact ⟨k + 1, _, by omega, by go_num, HA2, rfl⟩
        case measure => simp [intOf]; omega
      · have R := Lib.hid (HN.out hxy)
        have hq : (x != y) = true := by simpa using hxy
        clear HA HN hxy
        go_wp2
        go_quiet (fail)
        go_wp2
        go_ret
        exact ⟨ret_bool R.out, below_drewN (below_drewN (Below.refl _ _) _) _⟩
    · obtain rfl : k = n := by omega
      have R := Lib.hid (show true = (xs == ys) by
        symm
        rw [beq_iff_eq]
        apply List.ext_getElem?
        intro t
        rcases Nat.lt_or_ge t k with h | h
        · have h1 := he.out t h
          rw [List.getElem?_eq_getElem (by rw [hl1.out]; exact h), List.getElem?_eq_getElem (by rw [hl2.out]; exact h)] at h1 ⊢
          rw [Option.getD_some, Option.getD_some] at h1
          rw [h1]
        · rw [List.getElem?_eq_none (by rw [hl1.out]; exact h), List.getElem?_eq_none (by rw [hl2.out]; exact h)])
      clear hx hy
      go_wp2
      go_ret
      exact ⟨ret_bool R.out, below_drewN (Below.refl _ _) _⟩
theorem total_q (A : Option Addr) (n c : Nat) (g : Nat → Int) (W : World) (h : VecR W A n g) (hn : n ≤ 1000) (hb : ∀ k, k < n → 0 ≤ g k ∧ g k ≤ 1000000000) : Calls Try.prog 73 #[.slice A n c] W fun e w' => e = .returned (.int .i64 (sm n g)) ∧ w' = W := (total_any A n c g W h hn hb).mono fun _ _ ⟨h1, h2⟩ => ⟨h1, h2.symm⟩
/-- What anyFlow answers. -/
def AnyR (t : Net) (n m : Nat) (w w' : World) (v : Value) : Prop := (v = .slice none 0 0 ∧ ¬ t.Feas) ∨ ∃ (A : Option Addr) (ca : Nat) (x : Nat → Nat → Int), v = .slice A n ca ∧ A.isSome = true ∧ Mat w' w.heap.size w'.heap.size A n ca m x ∧ t.Flow x

set_option maxRecDepth 100000 in
set_option maxHeartbeats 8000000 in
theorem anyFlow_any (n m : Nat) (R C L H : Option Addr) (rc cc lc hc : Nat) (t : Net) (w : World) (en : t.n = n) (em : t.m = m) (hN : NetR w R C L H t) (ht : NetB t) :
    Calls Try.prog 75 #[.agg #[.slice R n rc, .slice C m cc, .slice L n lc, .slice H n hc]] w fun e w' => ∃ v, e = .returned v ∧ AnyR t n m w w' v ∧ Below w.heap.size w w' := by
  have q22 : ∀ (w : World) (a : Option Addr) (n c n' c' : Nat), (binOp .eql 22 (.slice a n c) (.slice none n' c')).run Try.prog w = .ok (.bool a.isNone) w := fun w a n c n' c' => Lib.run_eql_slice_nil w _ _ a n c n' c' Try.underlying22
  have h8 := ht.n8
  have h8' := ht.m8
  rw [en] at h8
  rw [em] at h8'
  have HT := Lib.hid ht
  have EN := Lib.hid en
  have EM := Lib.hid em
  have hn1 : 1 ≤ n := by rw [← en]; exact ht.n1
  have B0 := Lib.hid (below_new w (.cells #[.slice R n rc, .slice C m cc, .slice L n lc, .slice H n hc] 54))
  have X0 := Lib.hid (box_new w #[.slice R n rc, .slice C m cc, .slice L n lc, .slice H n hc] 54)
  have HN := Lib.hid (hN.below B0.out)
  have HR : Hid (VecR _ R n t.R) := Lib.hid (by have := HN.out.r; rw [EN.out] at this; exact this)
  have HC : Hid (VecR _ C m t.C) := Lib.hid (by have := HN.out.c; rw [EM.out] at this; exact this)
  have HRB : Hid (∀ k, k < n → 0 ≤ t.R k ∧ t.R k ≤ 1000000000) := Lib.hid (fun k hk => by have := HT.out.r k (by rw [EN.out]; exact hk); omega)
  have HCB : Hid (∀ k, k < m → 0 ≤ t.C k ∧ t.C k ≤ 1000000000) := Lib.hid (fun k hk => by have := HT.out.c k (by rw [EM.out]; exact hk); omega)
  have HS1 : Hid (t.Feas → sm n t.R = sm m t.C) := Lib.hid (fun h => by have := feas_sums h; rw [EN.out, EM.out] at this; exact this)
  have qR := fun (W : World) (h : VecR W R n t.R) => total_q R n rc t.R W h (by omega) HRB.out
  have qC := fun (W : World) (h : VecR W C m t.C) => total_q C m cc t.C W h (by omega) HCB.out
  have QR := Lib.hid qR
  have QC := Lib.hid qC
  clear hN ht en em qR qC
  have c0 := box_cell X0.out 0 (.slice R n rc) rfl
  have c1 := box_cell X0.out 1 (.slice C m cc) rfl
  have c2 := box_cell X0.out 2 (.slice L n lc) rfl
  have c3 := box_cell X0.out 3 (.slice H n hc) rfl
  go_enter Try.func75, Try.ntmps75
  go_wp2_with fail
  generalize w.alloc (.cells #[.slice R n rc, .slice C m cc, .slice L n lc, .slice H n hc] 54) = w1 at *
  by_cases hs : sm n t.R = sm m t.C
  case neg =>
    have hne : (sm n t.R != sm m t.C) = true := by simpa using hs
    have HNo : Hid (¬ t.Feas) := Lib.hid (fun h => hs (HS1.out h))
    clear hs HS1
    generalize sm n t.R = sr at *
    generalize sm m t.C = sc at *
    go_quiet ((first | (go_at_call 73; with_reducible exact Calls.quiet_of_same (QR.out _ (Ints.drewN HR.out _))) | (go_at_call 73; with_reducible exact Calls.quiet_of_same (QC.out _ (Ints.drewN HC.out _)))))
    go_wp2
    go_ret
    exact ⟨_, rfl, .inl ⟨rfl, HNo.out⟩, below_drewN B0.out _⟩
  case pos =>
    have hne : (sm n t.R != sm m t.C) = false := by simpa using hs
    have HS : Hid (sm t.n t.R = sm t.m t.C) := Lib.hid (by rw [EN.out, EM.out]; exact hs)
    clear hs HS1
    generalize sm n t.R = sr at *
    generalize sm m t.C = sc at *
    go_quiet ((first | (go_at_call 73; with_reducible exact Calls.quiet_of_same (QR.out _ (Ints.drewN HR.out _))) | (go_at_call 73; with_reducible exact Calls.quiet_of_same (QC.out _ (Ints.drewN HC.out _)))))
    have bd := below_drewN (Below.refl w1.heap.size w1) nq
    go_wp2_with fail
    refine (fill_any n m R C L H rc cc lc hc t _ EN.out EM.out (HN.out.below bd) HT.out).mono ?_
    rintro e w2 ⟨v, rfl, hv, b2⟩
    have HB2 : Hid (Below w1.heap.size w1 w2) := Lib.hid (bd.trans b2)
    have HBF : Hid (Below w.heap.size w w2) := Lib.hid (B0.out.trans (HB2.out.mono B0.out.size))
    rcases hv with ⟨rfl, hno⟩ | ⟨A, ca, r', s, rfl, hlow, hM, hS, hMo⟩
    · have HNo : Hid (¬ t.Feas) := Lib.hid (fun ⟨x, hx⟩ => hno hx.low)
      clear c0 c1 c2 c3 hno b2
      go_wp2_with fail
      go_quiet (fail)
      go_wp2
      go_ret
      exact ⟨_, rfl, .inl ⟨rfl, HNo.out⟩, below_drewN HBF.out _⟩
    · obtain ⟨_, g0, _, _, rfl, _⟩ := mat_caps hM (show 0 < n by omega)
      have HM := Lib.hid hM
      have HMR := Lib.hid (OwnII.read hM)
      have HSt := Lib.hid hS
      have HMo := Lib.hid hMo
      have HFB : Hid (∀ i j, i < n → j < m → 0 ≤ filX t r' i j ∧ filX t r' i j ≤ 1000000000) := Lib.hid (fun i j hi hj => by
        have h1 := fil_in (t := t) (r' := r') (s := s) (by rw [EN.out, EM.out]; exact hS) (i := i) (j := j) (by rw [EN.out]; exact hi) (by rw [EM.out]; exact hj)
        have h2 := HT.out.b i j (by rw [EN.out]; exact hi) (by rw [EM.out]; exact hj)
        omega)
      have HR2 : Hid (VecR w2 R n t.R) := Lib.hid (Ints.below HR.out HB2.out)
      have c0 := cellLater c0 HB2.out
      clear c1 c2 c3 hM hS hMo b2
      go_wp2_with fail
      obtain ⟨bq, HEQ⟩ : ∃ bq, Hid ((lst n (fun i => sm m (filX t r' i)) == lst n t.R) = bq) := ⟨_, Lib.hid rfl⟩
      have HW := Lib.hid (fun (w4 w5 : World) (b4 : Below w2.drew.heap.size w2.drew w4) (b5 : Below w4.heap.size w4 w5) => (show Below w2.heap.size w2 w5 from (Below.refl _ _).drew.trans (b4.trans (b5.mono b4.size))))
      cases bq
      case false =>
        have HNo : Hid (¬ t.Feas) := Lib.hid (fun ⟨y, hy⟩ => by
          have h1 := fil_full (r' := r') (s := s) (by rw [EN.out, EM.out]; exact HSt.out) hy (fun i j hi hj => (HT.out.b i j hi hj).1) (by have := HMo.out; rw [← EN.out, ← EM.out] at this; exact this)
          have h2 : lst n (fun i => sm m (filX t r' i)) = lst n t.R := lst_congr fun i hi => by have := h1 i (by rw [EN.out]; exact hi); rw [EM.out] at this; exact this
          have h3 := HEQ.out
          rw [h2] at h3
          simp at h3)
        clear HSt HMo HM
        go_region_law ((first
          | (go_simp; go_at_call 71; refine (rowSums_any (some ⟨g0, 0, none⟩) n ca m (filX t r') _ (IntsS.below HMR.out (Below.refl _ _).drew) (by omega) (by omega) HFB.out).mono ?_; rintro e w4 ⟨A8, c8, rfl, o4, b4⟩; have q2 := cellLater (w := w2) (w' := w4) c0 ((Below.refl _ _).drew.trans b4); dsimp only)
          | (go_simp; go_at_call 55; refine (slEqI_any A8 R n c8 rc (lst n (fun i => sm m (filX t r' i))) (lst n t.R) _ o4.ints (Ints.below HR2.out ((Below.refl _ _).drew.trans b4)) (by omega)).mono ?_; rintro e w5 ⟨rfl, b5⟩; rw [HEQ.out]; dsimp only)))
        all_goals go_wp2
        all_goals go_ret
        all_goals exact ⟨_, rfl, .inl ⟨rfl, HNo.out⟩, HBF.out.trans ((HW.out _ _ b4 b5).mono HBF.out.size)⟩
      case true =>
        have HFl : Hid (t.Flow (filX t r')) := Lib.hid (fil_flow (s := s) (by rw [EN.out, EM.out]; exact HSt.out) HS.out fun i hi => by
          have h3 := HEQ.out
          rw [beq_iff_eq] at h3
          have h4 := lst_inj h3 i (by rw [← EN.out]; exact hi)
          rw [EM.out]
          exact h4)
        have HMl := Lib.hid (fun (w5 : World) (b5 : Below w2.heap.size w2 w5) => (show Mat w5 w.heap.size w5.heap.size (some ⟨g0, 0, none⟩) n ca m (filX t r') from mat_lower (HM.out.below b5) (B0.out.trans (bd.mono B0.out.size)).size))
        clear HSt HMo HM
        go_region_law ((first
          | (go_simp; go_at_call 71; refine (rowSums_any (some ⟨g0, 0, none⟩) n ca m (filX t r') _ (IntsS.below HMR.out (Below.refl _ _).drew) (by omega) (by omega) HFB.out).mono ?_; rintro e w4 ⟨A8, c8, rfl, o4, b4⟩; have q2 := cellLater (w := w2) (w' := w4) c0 ((Below.refl _ _).drew.trans b4); dsimp only)
          | (go_simp; go_at_call 55; refine (slEqI_any A8 R n c8 rc (lst n (fun i => sm m (filX t r' i))) (lst n t.R) _ o4.ints (Ints.below HR2.out ((Below.refl _ _).drew.trans b4)) (by omega)).mono ?_; rintro e w5 ⟨rfl, b5⟩; rw [HEQ.out]; dsimp only)))
        all_goals go_wp2
        all_goals go_ret
        all_goals exact ⟨_, rfl, .inr ⟨_, ca, _, rfl, rfl, HMl.out _ (HW.out _ _ b4 b5), HFl.out⟩, HBF.out.trans ((HW.out _ _ b4 b5).mono HBF.out.size)⟩
end

section
open Go.RowKit Flo
set_option linter.unusedVariables false

set_option maxRecDepth 100000 in
set_option maxHeartbeats 2000000 in
theorem areSums_any (A : Option Addr) (n c : Nat) (g : Nat → Int) (w : World) (h : VecR w A n g) (h1 : 1 ≤ n) (h8 : n ≤ 8) (hb : ∀ k, k < n → 0 ≤ g k ∧ g k ≤ 100000) :
    Calls Try.prog 91 #[.slice A n c] w fun e w' => e = .returned (.bool true) ∧ w = w' := by
  have d0 : decide ((n : Int) < 1) = false := by simp; omega
  have d1 : decide ((8 : Int) < (n : Int)) = false := by simp; omega
  go_enter Try.func91, Try.ntmps91
  go_wp2
  clear d0 d1
  go_loopw [15] (fun i wr => ∃ (k : Nat), k ≤ n ∧ i = .int .i64 k ∧ w = wr) (fun i _ => n - (intOf i).toNat)
  case atStart => exact ⟨0, Nat.zero_le _, rfl, rfl⟩
  case round =>
    obtain ⟨k, hk, rfl, rfl⟩ := hrel
    by_cases hlt : k < n
    · obtain ⟨ad, rfl, hc⟩ := vecR_at h hlt
      have hbk := hb k hlt
      have d0 : decide (g k < 0) = false := by simp; omega
      have d1 : decide ((100000 : Int) < g k) = false := by simp; omega
      generalize g k = x at *
      go_wp2
      go_roundw
      case rel => exact ⟨k + 1, by omega, by go_num, trivial⟩
      case measure => simp [intOf]; omega
    · obtain rfl : n = k := by omega
      go_wp2
      go_ret
      exact ⟨rfl, rfl⟩
theorem shB_lst {n m : Nat} {f : Nat → Nat → Int} : (decide (n = n) && shB n m (fun i => lst m (f i))) = true := by
  rw [decide_eq_true rfl, Bool.true_and]
  exact shB_yes fun i _ => lst_len _ _

set_option maxRecDepth 100000 in
set_option maxHeartbeats 8000000 in
theorem isTransport_any (n m : Nat) (R C L H : Option Addr) (rc cc lc hc : Nat) (t : Net) (w : World) (en : t.n = n) (em : t.m = m) (hN : NetR w R C L H t) (ht : NetB t) :
    Calls Try.prog 74 #[.agg #[.slice R n rc, .slice C m cc, .slice L n lc, .slice H n hc]] w fun e w' => e = .returned (.bool true) ∧ Below w.heap.size w w' := by
  have h8 := ht.n8
  have h8' := ht.m8
  have h1 := ht.n1
  have h1' := ht.m1
  rw [en] at h8 h1
  rw [em] at h8' h1'
  have HT := Lib.hid ht
  have EN := Lib.hid en
  have EM := Lib.hid em
  have B0 := Lib.hid (below_new w (.cells #[.slice R n rc, .slice C m cc, .slice L n lc, .slice H n hc] 54))
  have X0 := Lib.hid (box_new w #[.slice R n rc, .slice C m cc, .slice L n lc, .slice H n hc] 54)
  have HN := Lib.hid (hN.below B0.out)
  have HR : Hid (VecR _ R n t.R) := Lib.hid (by have := HN.out.r; rw [EN.out] at this; exact this)
  have HC : Hid (VecR _ C m t.C) := Lib.hid (by have := HN.out.c; rw [EM.out] at this; exact this)
  have HL : Hid (MatR _ L n m t.lo) := Lib.hid (by have := HN.out.lo; rw [EN.out, EM.out] at this; exact this)
  have HH : Hid (MatR _ H n m t.hi) := Lib.hid (by have := HN.out.hi; rw [EN.out, EM.out] at this; exact this)
  clear hN ht en em
  have c0 := box_cell X0.out 0 (.slice R n rc) rfl
  have c1 := box_cell X0.out 1 (.slice C m cc) rfl
  have c2 := box_cell X0.out 2 (.slice L n lc) rfl
  have c3 := box_cell X0.out 3 (.slice H n hc) rfl
  go_enter Try.func74, Try.ntmps74
  go_wp2_with fail
  generalize w.alloc (.cells #[.slice R n rc, .slice C m cc, .slice L n lc, .slice H n hc] 54) = w1 at *
  refine (areSums_any R n rc t.R _ HR.out h1 h8 (fun k hk => HT.out.r k (by rw [EN.out]; exact hk))).mono ?_
  rintro e w2 ⟨rfl, rfl⟩
  go_wp2_with fail
  refine (areSums_any C m cc t.C _ HC.out h1' h8' (fun k hk => HT.out.c k (by rw [EM.out]; exact hk))).mono ?_
  rintro e w2 ⟨rfl, rfl⟩
  go_wp2_with fail
  refine (hasShape_any L n lc n m _ _ HL.out (by omega)).mono ?_
  rintro e w2 ⟨rfl, rfl⟩
  rw [shB_lst]
  go_wp2_with fail
  refine (hasShape_any H n hc n m _ _ HH.out (by omega)).mono ?_
  rintro e w2 ⟨rfl, rfl⟩
  rw [shB_lst]
  go_wp2_with fail
  go_loopw [44] (fun i wr => ∃ (k : Nat), k ≤ n ∧ i = .int .i64 k ∧ w1 = wr) (fun i _ => n - (intOf i).toNat)
  case atStart => exact ⟨0, Nat.zero_le _, rfl, rfl⟩
  case round =>
    obtain ⟨i, hi, rfl, rfl⟩ := hrel
    by_cases hlt : i < n
    · obtain ⟨al, rfl, V, cv, p1, hv⟩ := matR_row HL.out hlt
      go_wp2_with fail
      go_loopw [51] (fun i wr => ∃ (k : Nat), k ≤ m ∧ i = .int .i64 k ∧ w1 = wr) (fun i _ => m - (intOf i).toNat)
      case atStart => exact ⟨0, Nat.zero_le _, rfl, rfl⟩
      case round =>
        obtain ⟨j, hj, rfl, rfl⟩ := hrel
        by_cases hlj : j < m
        · obtain ⟨av, rfl, p2⟩ := vecR_at hv hlj
          obtain ⟨ah, vh, ch, rfl, q1, q2⟩ := matR_cell HH.out hlt hlj
          have hb := HT.out.b i j (by rw [EN.out]; exact hlt) (by rw [EM.out]; exact hlj)
          have d0 : decide (t.lo i j < 0) = false := by simp; omega
          have d1 : decide (t.hi i j < t.lo i j) = false := by simp; omega
          have d2 : decide ((100000 : Int) < t.hi i j) = false := by simp; omega
          clear hv
          generalize t.lo i j = x at *
          generalize t.hi i j = y at *
          go_wp2
          go_roundw
          case rel => exact ⟨j + 1, by omega, by go_num, trivial⟩
          case measure => simp [intOf]; omega
        · obtain rfl : m = j := by omega
          clear hv
          go_wp2
          go_roundw
          case rel => exact ⟨i + 1, by omega, by go_num, trivial⟩
          case measure => simp [intOf]; omega
    · obtain rfl : n = i := by omega
      go_wp2
      go_ret
      exact ⟨rfl, B0.out⟩
end

section
open Go.RowKit Flo
set_option linter.unusedVariables false

theorem mat_apart {w : World} {lo hi n c m i j g0 g g' cv cv' : Nat} {f : Nat → Nat → Int} (h : Mat w lo hi (some ⟨g0, 0, none⟩) n c m f) (hi' : i < n) (hj : j < n) (hij : i ≠ j)
    (h1 : w.cell? ⟨g0, i, none⟩ = some (.slice (some ⟨g, 0, none⟩) m cv)) (h2 : w.cell? ⟨g0, j, none⟩ = some (.slice (some ⟨g', 0, none⟩) m cv')) : g ≠ g' := by
  obtain ⟨ys, h3, h4⟩ := h.cells
  have hl : ys.length = n := by have := h3.1; omega
  have e1 : ys[i]? = some (.slice (some ⟨g, 0, none⟩) m cv) := by rw [← World.ownsRow.cellAt h3 i (by omega)]; exact h1
  have e2 : ys[j]? = some (.slice (some ⟨g', 0, none⟩) m cv') := by rw [← World.ownsRow.cellAt h3 j (by omega)]; exact h2
  intro e
  subst e
  rcases Nat.lt_or_ge i j with h5 | h5
  · exact h4.apart i j g (Nat.zero_le _) h5 hj (by rw [Nat.mul_one, Nat.add_zero, e1]; rfl) (by rw [Nat.mul_one, Nat.add_zero, e2]; rfl)
  · exact h4.apart j i g (Nat.zero_le _) (by omega) hi' (by rw [Nat.mul_one, Nat.add_zero, e2]; rfl) (by rw [Nat.mul_one, Nat.add_zero, e1]; rfl)
theorem rng_upd {t : Net} {x : Nat → Nat → Int} {p q u v : Nat} (hp : p < t.n) (hq : q < t.m) (hu : u < t.n + t.m) (hv : v < t.n + t.m) : updM (updM (roomV t x) p (t.n + q) 0) (t.n + q) p 0 u v = rngR t x p q u v := by
  unfold updM rngR roomV
  by_cases h1 : u < t.n ∧ t.n ≤ v
  · rw [if_neg (by omega)]
    by_cases h2 : u = p ∧ v = t.n + q
    · rw [if_pos h2, if_pos (by omega), if_pos (by omega)]
    · rw [if_neg h2, if_pos h1, if_pos (by omega), if_neg (by omega)]
  · by_cases h3 : t.n ≤ u ∧ v < t.n
    · by_cases h2 : u = t.n + q ∧ v = p
      · rw [if_pos h2, if_neg (by omega), if_pos (by omega), if_pos (by omega)]
      · rw [if_neg h2, if_neg (by omega), if_neg h1, if_pos h3, if_neg (by omega), if_pos (by omega), if_neg (by omega)]
    · rw [if_neg (by omega), if_neg (by omega), if_neg h1, if_neg h3, if_neg (by omega), if_neg (by omega)]

set_option maxRecDepth 100000 in
set_option maxHeartbeats 8000000 in
theorem rangeFree_any (n m i j F0 F1 F2 F3 F4 : Nat) (R C L H X : Option Addr) (rc cc lc hc xc : Nat) (t : Net) (x : Nat → Nat → Int) (w : World) (en : t.n = n) (em : t.m = m) (hN : NetR w R C L H t) (hX : MatR w X n m x) (ht : NetB t) (hin : InB t x) (hi : i < n) (hj : j < m)
    (x0 : w.heap[F0]? = some (.cells #[.slice R n rc, .slice C m cc, .slice L n lc, .slice H n hc] 54 (0, 0))) (c1 : w.cell? ⟨F1, 0, none⟩ = some (.slice X n xc)) (c2 : w.cell? ⟨F2, 0, none⟩ = some (.int .i64 i)) (c3 : w.cell? ⟨F3, 0, none⟩ = some (.int .i64 n)) (c4 : w.cell? ⟨F4, 0, none⟩ = some (.int .i64 j)) :
    Calls Try.prog 93 #[.pointer (some ⟨F0, 0, none⟩), .pointer (some ⟨F1, 0, none⟩), .pointer (some ⟨F2, 0, none⟩), .pointer (some ⟨F3, 0, none⟩), .pointer (some ⟨F4, 0, none⟩)] w fun e w' => ∃ (A : Option Addr) (ca : Nat), e = .returned (.slice A (n + m) ca) ∧ Mat w' w.heap.size w'.heap.size A (n + m) ca (n + m) (rngR t x i j) ∧ Below w.heap.size w w' := by
  have h8 := ht.n8
  have h8' := ht.m8
  rw [en] at h8
  rw [em] at h8'
  have HT := Lib.hid ht
  have HI := Lib.hid hin
  have EN := Lib.hid en
  have EM := Lib.hid em
  have HN := Lib.hid hN
  have HX := Lib.hid hX
  have d0 := box_cell x0 0 (.slice R n rc) rfl
  have d1 := box_cell x0 1 (.slice C m cc) rfl
  have d2 := box_cell x0 2 (.slice L n lc) rfl
  have d3 := box_cell x0 3 (.slice H n hc) rfl
  clear en em hN hX ht hin x0
  go_enter Try.func93, Try.ntmps93
  go_wp2_with fail
  refine (residual_any n m R C L H X rc cc lc hc xc t x _ EN.out EM.out HN.out HX.out HT.out HI.out).mono ?_
  rintro e w2 ⟨A, ca, rfl, hM, hb⟩
  have e2 := cellLater c2 hb
  have e3 := cellLater c3 hb
  have e4 := cellLater c4 hb
  obtain ⟨g0, g, cg, rfl, k1, k2, k3, k4, k5, k6, k7, k8, k9, k10, back⟩ := mat_cell hM (i := i) (j := n + j) (by omega) (by omega)
  obtain ⟨g0', g', cg', eA, l1, l2, l3, l4, l5, l6, l7, l8, l9, l10, _⟩ := mat_cell hM (i := n + j) (j := i) (by omega) (by omega)
  obtain rfl : g0 = g0' := congrArg Addr.block (Option.some.inj eA)
  have hne : g ≠ g' := mat_apart hM (show i < n + m by omega) (show n + j < n + m by omega) (by omega) k1 l1
  have hne' : g' ≠ g := fun h => hne h.symm
  obtain ⟨g0', g2, cg2, eA2, m1, m2, m3, m4, m5, m6, m7, m8, m9, m10, back2⟩ := mat_cell (back 0) (i := n + j) (j := i) (by omega) (by omega)
  obtain rfl : g0 = g0' := congrArg Addr.block (Option.some.inj eA2)
  have hg0 : g0 ≠ g := fun h => k10 h.symm
  have hgg : g2 = g' := by
    rw [World.cell?_setCell_other _ _ _ _ (fun h => k10 (congrArg Addr.block h)), l1] at m1
    injection m1 with m1
    injection m1 with m1
    injection m1 with m1
    injection m1 with m1
    exact m1.symm
  subst hgg
  have HB := Lib.hid hb
  have HM2 := Lib.hid (mat_fn (back2 0) fun u v hu hv => (by rw [← EN.out]; exact (rng_upd (by rw [EN.out]; exact hi) (by rw [EM.out]; exact hj) (by rw [EN.out, EM.out]; exact hu) (by rw [EN.out, EM.out]; exact hv)).symm : rngR t x i j u v = _))
  have HB2 := Lib.hid ((hb.setCell (p := ⟨g, n + j, none⟩) k4 (.int .i64 0)).setCell (p := ⟨g2, i, none⟩) l4 (.int .i64 0))
  have hin1 : (i : Int) < (n : Int) + (m : Int) := by omega
  have hin2 : (n : Int) + (j : Int) < (n : Int) + (m : Int) := by omega
  clear hM hb back back2 c2 c3 c4 d0 d1 d2 d3 c1 eA eA2 k4 k5 k6 k7 k8 k9 l4 l5 l6 l7 l8 l9 m4 m5 m6 m7 m8 m9 m1 m2 m3 hg0
  go_wp2_with fail
  go_region
  have HM3 := Lib.hid (mat_lower (lo' := w.heap.size) (HM2.out.below (Below.refl _ _).drew) (Nat.le_refl _))
  have HB3 := Lib.hid HB2.out.drew
  go_wp2
  go_ret
  exact ⟨_, _, rfl, HM3.out, HB3.out⟩
end

section
open Go.RowKit Flo
set_option linter.unusedVariables false

theorem rngR_le {t : Net} {x : Nat → Nat → Int} {p q : Nat} (ht : NetB t) (hx : t.Flow x) {u v : Nat} (hu : u < t.n + t.m) (hv : v < t.n + t.m) : 0 ≤ rngR t x p q u v ∧ rngR t x p q u v ≤ 100000 := by
  refine ⟨rngR_nn hx u v, ?_⟩
  unfold rngR
  split
  · rename_i h
    split
    · omega
    · have h1 := ht.b u (v - t.n) h.1 (by omega)
      have h2 := hx.ge u (v - t.n) h.1 (by omega)
      omega
  · split
    · rename_i h
      split
      · omega
      · have h1 := ht.b v (u - t.n) h.1 (by omega)
        have h2 := hx.le v (u - t.n) h.1 (by omega)
        omega
    · omega
theorem flow_in {t : Net} {x : Nat → Nat → Int} (hx : t.Flow x) : InB t x := fun i j hi hj => ⟨hx.ge i j hi hj, hx.le i j hi hj⟩

set_option maxRecDepth 100000 in
set_option maxHeartbeats 8000000 in
theorem rangeOf_any (n m i j : Nat) (R C L H X : Option Addr) (rc cc lc hc xc : Nat) (t : Net) (x : Nat → Nat → Int) (w : World) (en : t.n = n) (em : t.m = m) (hN : NetR w R C L H t) (hX : MatR w X n m x) (ht : NetB t) (hx : t.Flow x) (hi : i < n) (hj : j < m) :
    Calls Try.prog 76 #[.agg #[.slice R n rc, .slice C m cc, .slice L n lc, .slice H n hc], .slice X n xc, .int .i64 i, .int .i64 j] w fun e w' => ∃ (a b : Int), e = .returned (.tuple #[.int .i64 a, .int .i64 b]) ∧ t.IsMin i j a ∧ t.IsMax i j b ∧ Below w.heap.size w w' := by
  have hmf : ∀ (fn : Fn) (first cap : Array Value) (w : World), (Instr.makeFunc fn first cap).run Try.prog w = .ok (.func fn first cap) w := fun _ _ _ _ => rfl
  have h8 := ht.n8
  have h8' := ht.m8
  rw [en] at h8
  rw [em] at h8'
  have HT := Lib.hid ht
  have HF := Lib.hid hx
  have EN := Lib.hid en
  have EM := Lib.hid em
  obtain ⟨T0, hT0⟩ : ∃ T0, w.heap.size = T0 := ⟨_, rfl⟩
  have HT0 := Lib.hid hT0
  have b4 : Below w.heap.size w (((((w.alloc (.cells #[.slice R n rc, .slice C m cc, .slice L n lc, .slice H n hc] 54)).alloc (.cells #[.slice X n xc] 22)).alloc (.cells #[.int .i64 i] 3)).alloc (.cells #[.int .i64 j] 3)).alloc (.cells #[.int .i64 n] 3)) := ((((below_new _ _).alloc (by simp) _).alloc (by simp; omega) _).alloc (by simp; omega) _).alloc (by simp; omega) _
  have x1 := box_below (box_below (box_below (box_new w #[.slice R n rc, .slice C m cc, .slice L n lc, .slice H n hc] 54) (below_new _ (.cells #[.slice X n xc] 22))) (below_new _ (.cells #[.int .i64 i] 3))) (below_new _ (.cells #[.int .i64 j] 3))
  have x0 := box_below x1 (below_new _ (.cells #[.int .i64 n] 3))
  have y1 := box_cell (box_below (box_below (box_below (box_new (w.alloc (.cells #[.slice R n rc, .slice C m cc, .slice L n lc, .slice H n hc] 54)) #[.slice X n xc] 22) (below_new _ (.cells #[.int .i64 i] 3))) (below_new _ (.cells #[.int .i64 j] 3))) (below_new _ (.cells #[.int .i64 n] 3))) 0 _ rfl
  have y2 := box_cell (box_below (box_below (box_new ((w.alloc (.cells #[.slice R n rc, .slice C m cc, .slice L n lc, .slice H n hc] 54)).alloc (.cells #[.slice X n xc] 22)) #[.int .i64 i] 3) (below_new _ (.cells #[.int .i64 j] 3))) (below_new _ (.cells #[.int .i64 n] 3))) 0 _ rfl
  have y3 := box_cell (box_below (box_new (((w.alloc (.cells #[.slice R n rc, .slice C m cc, .slice L n lc, .slice H n hc] 54)).alloc (.cells #[.slice X n xc] 22)).alloc (.cells #[.int .i64 i] 3)) #[.int .i64 j] 3) (below_new _ (.cells #[.int .i64 n] 3))) 0 _ rfl
  have y4 := box_cell (box_new ((((w.alloc (.cells #[.slice R n rc, .slice C m cc, .slice L n lc, .slice H n hc] 54)).alloc (.cells #[.slice X n xc] 22)).alloc (.cells #[.int .i64 i] 3)).alloc (.cells #[.int .i64 j] 3)) #[.int .i64 n] 3) 0 _ rfl
  rw [hT0] at x1 x0
  simp only [World.size_alloc, hT0] at y1 y2 y3 y4
  have c0 := box_cell x1 0 (.slice R n rc) rfl
  obtain ⟨w5, hw5⟩ : ∃ w5, w5 = (((((w.alloc (.cells #[.slice R n rc, .slice C m cc, .slice L n lc, .slice H n hc] 54)).alloc (.cells #[.slice X n xc] 22)).alloc (.cells #[.int .i64 i] 3)).alloc (.cells #[.int .i64 j] 3)).alloc (.cells #[.int .i64 n] 3)) := ⟨_, rfl⟩
  rw [← hw5] at b4 x0 y1 y2 y3 y4
  have HW5 := Lib.hid hw5
  have HB4 := Lib.hid b4
  have HX0 := Lib.hid x0
  have HN := Lib.hid (hN.below b4)
  have HX := Lib.hid (IntsS.below hX b4)
  have HY1 : Hid (w5.cell? ⟨T0 + 1, 0, none⟩ = some (.slice X n xc)) := Lib.hid y1
  have HY2 : Hid (w5.cell? ⟨T0 + 1 + 1, 0, none⟩ = some (.int .i64 i)) := Lib.hid y2
  have HY3 : Hid (w5.cell? ⟨T0 + 1 + 1 + 1, 0, none⟩ = some (.int .i64 j)) := Lib.hid y3
  have HY4 : Hid (w5.cell? ⟨T0 + 1 + 1 + 1 + 1, 0, none⟩ = some (.int .i64 n)) := Lib.hid y4
  have HFREE := Lib.hid (fun (W : World) (hb : Below w5.heap.size w5 W) => rangeFree_any n m i j T0 (T0 + 1) (T0 + 1 + 1) (T0 + 1 + 1 + 1 + 1) (T0 + 1 + 1 + 1) R C L H X rc cc lc hc xc t x W en em (HN.out.below hb) (IntsS.below HX.out hb) ht (flow_in hx) hi hj (box_below x0 hb) (cellLater y1 hb) (cellLater y2 hb) (cellLater y4 hb) (cellLater y3 hb))
  clear b4 x0 x1 hw5 hN hX y1 y2 y3 y4
  go_enter Try.func76, Try.ntmps76
  go_wp2_with fail
  rw [← HW5.out]
  obtain ⟨ax, vx, cx, rfl, px1, px2⟩ := matR_cell HX.out hi hj
  obtain ⟨al, vl, cl, el, pl1, pl2⟩ := matR_cell HN.out.lo (by rw [EN.out]; exact hi) (by rw [EM.out]; exact hj)
  subst el
  rw [EM.out] at pl1
  obtain ⟨ah, vh, ch, eh, ph1, ph2⟩ := matR_cell HN.out.hi (by rw [EN.out]; exact hi) (by rw [EM.out]; exact hj)
  subst eh
  rw [EM.out] at ph1
  have hb := ht.b i j (by rw [en]; exact hi) (by rw [em]; exact hj)
  have hx1 := hx.ge i j (by rw [en]; exact hi) (by rw [em]; exact hj)
  have hx2 := hx.le i j (by rw [en]; exact hi) (by rw [em]; exact hj)
  have HPUL := Lib.hid (fun (W W0 : World) (A : Option Addr) (ca : Nat) (hb5 : Below w5.heap.size w5 W0) (hb6 : Below w5.heap.size w5 W) (hM : Mat W W0.heap.size W.heap.size A (n + m) ca (n + m) (rngR t x i j)) =>
    (show Calls Try.prog 95 #[.slice A (n + m) ca, .int .i64 i, .int .i64 ((n : Int) + (j : Int)), .int .i64 (x i j - t.lo i j)] W fun e w' => ∃ s : Int, e = .returned (.int .i64 s) ∧ 0 ≤ s ∧ s ≤ 100000 ∧ t.IsMin i j (x i j - s) ∧ Below w5.heap.size w5 w' from
      (push_any (n + m) A ca W0.heap.size W.heap.size i (n + j) (x i j - t.lo i j) (rngR t x i j) W hM (Nat.le_refl _) (by omega) (fun u v hu hv => by have h1 := rngR_le (p := i) (q := j) ht hx (u := u) (v := v) (by rw [en, em]; exact hu) (by rw [en, em]; exact hv); have h2 := rngR_le (p := i) (q := j) ht hx (u := v) (v := u) (by rw [en, em]; exact hv) (by rw [en, em]; exact hu); omega) (by omega) (by omega) (by omega) (by omega) (by omega)).mono fun e w' ⟨s, h1, h2, h3, r', _, h5, h6, h7⟩ =>
        ⟨s, h1, h2, by omega, rng_min (by rw [en, em]; exact h5) hx (by rw [en]; exact hi) (by rw [em]; exact hj) h3 h2 (by rw [en, em]; exact h6), h7.below hb6 hb5.size hb6.size⟩))
  have HPUH := Lib.hid (fun (W W0 : World) (A : Option Addr) (ca : Nat) (hb5 : Below w5.heap.size w5 W0) (hb6 : Below w5.heap.size w5 W) (hM : Mat W W0.heap.size W.heap.size A (n + m) ca (n + m) (rngR t x i j)) =>
    (show Calls Try.prog 95 #[.slice A (n + m) ca, .int .i64 ((n : Int) + (j : Int)), .int .i64 i, .int .i64 (t.hi i j - x i j)] W fun e w' => ∃ s : Int, e = .returned (.int .i64 s) ∧ 0 ≤ s ∧ s ≤ 100000 ∧ t.IsMax i j (x i j + s) ∧ Below w5.heap.size w5 w' from
      (push_any (n + m) A ca W0.heap.size W.heap.size (n + j) i (t.hi i j - x i j) (rngR t x i j) W hM (Nat.le_refl _) (by omega) (fun u v hu hv => by have h1 := rngR_le (p := i) (q := j) ht hx (u := u) (v := v) (by rw [en, em]; exact hu) (by rw [en, em]; exact hv); have h2 := rngR_le (p := i) (q := j) ht hx (u := v) (v := u) (by rw [en, em]; exact hv) (by rw [en, em]; exact hu); omega) (by omega) (by omega) (by omega) (by omega) (by omega)).mono fun e w' ⟨s, h1, h2, h3, r', _, h5, h6, h7⟩ =>
        ⟨s, h1, h2, by omega, rng_max (by rw [en, em]; exact h5) hx (by rw [en]; exact hi) (by rw [em]; exact hj) h3 h2 (by rw [en, em]; exact h6), h7.below hb6 hb5.size hb6.size⟩))
  have HW := Lib.hid (fun (W : World) (hb : Below w5.heap.size w5 W) => (show W.cell? ⟨T0, 2, none⟩ = some (.slice (some al) n lc) ∧ W.cell? ⟨T0, 3, none⟩ = some (.slice (some ah) n hc) ∧ W.cell? ⟨T0 + 1 + 1, 0, none⟩ = some (.int .i64 i) ∧ W.cell? ⟨T0 + 1 + 1 + 1, 0, none⟩ = some (.int .i64 j) ∧ W.cell? ⟨T0 + 1 + 1 + 1 + 1, 0, none⟩ = some (.int .i64 n) ∧
      W.cell? (al.add i) = some (.slice (some vl) m cl) ∧ W.cell? (vl.add j) = some (.int .i64 (t.lo i j)) ∧ W.cell? (ah.add i) = some (.slice (some vh) m ch) ∧ W.cell? (vh.add j) = some (.int .i64 (t.hi i j)) from
    ⟨box_cell (box_below HX0.out hb) 2 _ rfl, box_cell (box_below HX0.out hb) 3 _ rfl, cellLater HY2.out hb, cellLater HY3.out hb, cellLater HY4.out hb, cellLater pl1 hb, cellLater pl2 hb, cellLater ph1 hb, cellLater ph2 hb⟩))
  have z1 := HY1.out
  have z2 := HY2.out
  have z3 := HY3.out
  clear c0 pl1 pl2 ph1 ph2 hx ht en em hmf
  generalize x i j = xv at *
  generalize t.lo i j = lv at *
  generalize t.hi i j = hv at *
  go_quiet (fail)
  clear z1 z2 z3 px1 px2
  have hin1 : (i : Int) < (n : Int) := by omega
  have B5 := Lib.hid (below_drewN (Below.refl w5.heap.size w5) nq)
  obtain ⟨w6, hw6⟩ : ∃ w6, w6 = w5.drewN nq := ⟨_, rfl⟩
  rw [← hw6] at B5 ⊢
  have B6 := Lib.hid B5.out.drew
  clear hw6
  have W1 : IntKind.i64.wrap ((n : Int) + (j : Int)) = (n : Int) + (j : Int) := IntWalk.i64_in _ ⟨by omega, by omega⟩
  have W2 : IntKind.i64.wrap (xv - lv) = xv - lv := IntWalk.i64_in _ ⟨by omega, by omega⟩
  have W3 : IntKind.i64.wrap (hv - xv) = hv - xv := IntWalk.i64_in _ ⟨by omega, by omega⟩
  go_wp2_with fail
  obtain ⟨f1, f2, f3, f4, f5, f6, f7, f8, f9⟩ := HW.out _ B6.out
  go_region_held3 (fun w' => w'.cell? ⟨T0, 2, none⟩ = some (.slice (some al) n lc) ∧ w'.cell? ⟨T0, 3, none⟩ = some (.slice (some ah) n hc) ∧ w'.cell? ⟨T0 + 1 + 1, 0, none⟩ = some (.int .i64 i) ∧ w'.cell? ⟨T0 + 1 + 1 + 1, 0, none⟩ = some (.int .i64 j) ∧ w'.cell? ⟨T0 + 1 + 1 + 1 + 1, 0, none⟩ = some (.int .i64 n) ∧
      w'.cell? (al.add i) = some (.slice (some vl) m cl) ∧ w'.cell? (vl.add j) = some (.int .i64 lv) ∧ w'.cell? (ah.add i) = some (.slice (some vh) m ch) ∧ w'.cell? (vh.add j) = some (.int .i64 hv))
    (first | with_reducible exact HW.out _ b10 | with_reducible exact HW.out _ B9.out | with_reducible exact HW.out _ B8.out | with_reducible exact HW.out _ B7.out | with_reducible exact HW.out _ B6.out | with_reducible exact ⟨f1, f2, f3, f4, f5, f6, f7, f8, f9⟩ | go_keep)
    (first
    | (go_simp; go_at_call 93; (with_reducible refine (HFREE.out w6.drew B6.out).mono ?_); rintro e w7 ⟨A7, c7, rfl, m7, b7⟩; have B7 := Lib.hid (B6.out.trans (b7.mono B6.out.size)); dsimp only)
    | (go_simp; go_at_call 95; (with_reducible refine (HPUL.out w7 w6.drew A7 c7 B6.out B7.out m7).mono ?_); rintro e w8 ⟨s8, rfl, p8, q8, hmin, b8⟩; have B8 := Lib.hid b8; have W4 : IntKind.i64.wrap (xv - s8) = xv - s8 := IntWalk.i64_in _ ⟨by omega, by omega⟩; dsimp only)
    | (go_simp; go_at_call 93; (with_reducible refine (HFREE.out w8 B8.out).mono ?_); rintro e w9 ⟨A9, c9, rfl, m9, b9⟩; have B9 := Lib.hid (B8.out.trans (b9.mono B8.out.size)); dsimp only)
    | (go_simp; go_at_call 95; (with_reducible refine (HPUH.out w9 w8 A9 c9 B8.out B9.out m9).mono ?_); rintro e w10 ⟨s10, rfl, p10, q10, hmax, b10⟩; have W5 : IntKind.i64.wrap (xv + s10) = xv + s10 := IntWalk.i64_in _ ⟨by omega, by omega⟩; dsimp only)
    | fail)
  all_goals clear hT0
  all_goals have HBF := Lib.hid (HB4.out.trans (b10.mono HB4.out.size))
  all_goals go_wp2
  all_goals go_ret2
  all_goals exact ⟨_, _, rfl, hmin, hmax, HBF.out⟩
end

section
open Go.RowKit Flo
set_option linter.unusedVariables false

set_option maxRecDepth 100000 in
set_option maxHeartbeats 8000000 in
theorem cellRange_any (n m i j : Nat) (R C L H : Option Addr) (rc cc lc hc : Nat) (t : Net) (w : World) (en : t.n = n) (em : t.m = m) (hN : NetR w R C L H t) (ht : NetB t) (hi : i < n) (hj : j < m) :
    Calls Try.prog 40 #[.agg #[.slice R n rc, .slice C m cc, .slice L n lc, .slice H n hc], .int .i64 i, .int .i64 j] w fun e w' => ∃ (a b : Int) (ok : Bool), e = .returned (.tuple #[.int .i64 a, .int .i64 b, .bool ok]) ∧ ((ok = true ↔ t.Feas) ∧ (ok = true → t.IsMin i j a ∧ t.IsMax i j b)) ∧ Below w.heap.size w w' := by
  have q22 : ∀ (w : World) (a : Option Addr) (n c n' c' : Nat), (binOp .eql 22 (.slice a n c) (.slice none n' c')).run Try.prog w = .ok (.bool a.isNone) w := fun w a n c n' c' => Lib.run_eql_slice_nil w _ _ a n c n' c' Try.underlying22
  have HT := Lib.hid ht
  have h8 := ht.n8
  have h8' := ht.m8
  rw [en] at h8
  rw [em] at h8'
  have EN := Lib.hid en
  have EM := Lib.hid em
  have B0 := Lib.hid (below_new w (.cells #[.slice R n rc, .slice C m cc, .slice L n lc, .slice H n hc] 54))
  have X0 := Lib.hid (box_new w #[.slice R n rc, .slice C m cc, .slice L n lc, .slice H n hc] 54)
  have HN := Lib.hid (hN.below B0.out)
  clear hN ht en em
  have c0 := box_cell X0.out 0 (.slice R n rc) rfl
  have c1 := box_cell X0.out 1 (.slice C m cc) rfl
  have c2 := box_cell X0.out 2 (.slice L n lc) rfl
  have c3 := box_cell X0.out 3 (.slice H n hc) rfl
  go_enter Try.func40, Try.ntmps40
  go_wp2_with fail
  generalize w.alloc (.cells #[.slice R n rc, .slice C m cc, .slice L n lc, .slice H n hc] 54) = w1 at *
  refine (isTransport_any n m R C L H rc cc lc hc t _ EN.out EM.out HN.out HT.out).mono ?_
  rintro e w2 ⟨rfl, b2⟩
  have HX2 := Lib.hid (box_below X0.out b2)
  have HN2 := Lib.hid (HN.out.below b2)
  have HB2 := Lib.hid (B0.out.trans (b2.mono B0.out.size))
  clear c0 c1 c2 c3 b2
  have c0 := box_cell HX2.out 0 (.slice R n rc) rfl
  have c1 := box_cell HX2.out 1 (.slice C m cc) rfl
  have c2 := box_cell HX2.out 2 (.slice L n lc) rfl
  have c3 := box_cell HX2.out 3 (.slice H n hc) rfl
  have d0 : decide ((i : Int) < 0) = false := by simp
  have d1 : decide ((n : Int) ≤ (i : Int)) = false := by simp; omega
  have d2 : decide ((j : Int) < 0) = false := by simp
  have d3 : decide ((m : Int) ≤ (j : Int)) = false := by simp; omega
  go_wp2_with fail
  refine (anyFlow_any n m R C L H rc cc lc hc t _ EN.out EM.out HN2.out HT.out).mono ?_
  rintro e w3 ⟨v, rfl, hv, b3⟩
  have HX3 := Lib.hid (box_below HX2.out b3)
  have HN3 := Lib.hid (HN2.out.below b3)
  have HB3 := Lib.hid (HB2.out.trans (b3.mono HB2.out.size))
  clear c0 c1 c2 c3 b3
  rcases hv with ⟨rfl, hno⟩ | ⟨A, ca, x, rfl, hA, hM, hx⟩
  · have HNo := Lib.hid hno
    clear hno
    go_wp2
    go_ret3
    exact ⟨_, _, _, rfl, ⟨⟨(fun h => by cases h), fun h => absurd h HNo.out⟩, fun h => by cases h⟩, HB3.out⟩
  · obtain ⟨ad, rfl⟩ := Option.isSome_iff_exists.1 hA
    have HF : Hid (t.Feas) := Lib.hid ⟨x, hx⟩
    have HFl := Lib.hid hx
    have HMR := Lib.hid (OwnII.read hM)
    have c0 := box_cell HX3.out 0 (.slice R n rc) rfl
    have c1 := box_cell HX3.out 1 (.slice C m cc) rfl
    have c2 := box_cell HX3.out 2 (.slice L n lc) rfl
    have c3 := box_cell HX3.out 3 (.slice H n hc) rfl
    clear hx hM hA
    go_wp2_with fail
    refine (rangeOf_any n m i j R C L H (some ad) rc cc lc hc ca t x _ EN.out EM.out HN3.out HMR.out HT.out HFl.out hi hj).mono ?_
    rintro e w4 ⟨a, b, rfl, ha, hb, b4⟩
    have HB4 := Lib.hid (HB3.out.trans (b4.mono HB3.out.size))
    have HA := Lib.hid ha
    have HBB := Lib.hid hb
    clear c0 c1 c2 c3 b4 ha hb
    go_wp2
    go_ret3
    exact ⟨_, _, _, rfl, ⟨⟨(fun _ => HF.out), fun _ => rfl⟩, fun _ => ⟨HA.out, HBB.out⟩⟩, HB4.out⟩
end
end Go.Proofs.Ytcjmapdeopffcaa
