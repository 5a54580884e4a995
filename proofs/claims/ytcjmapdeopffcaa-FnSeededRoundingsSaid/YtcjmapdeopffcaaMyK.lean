/- The network of a matrix: the reference. -/
import Derived.Test.YtcjmapdeopffcaaReg
namespace Go.Proofs.Ytcjmapdeopffcaa
open Go.RowKit Flo
set_option linter.unusedVariables false

set_option maxRecDepth 100000 in
set_option maxHeartbeats 1000000 in
theorem oDown_any (v b : Int) (w : World) (hb : 2 ≤ b) (hb2 : b ≤ 100) (hv : 0 ≤ v) (hv2 : v ≤ 1000000) :
    Calls Try.prog 64 #[.int .i64 v, .int .i64 b] w fun e w' => e = .returned (.int .i64 (dnV b v)) ∧ w = w' := by
  obtain ⟨q, hq⟩ : ∃ q, v.tdiv b = q := ⟨_, rfl⟩
  have h1 := dnV_bd hb hv
  have hq1 : dnV b v = q := hq
  rw [hq1] at h1 ⊢
  have W1 : IntKind.i64.wrap q = q := IntWalk.i64_in _ ⟨by omega, by omega⟩
  have hb0 : ¬ b = 0 := by omega
  clear h1 hq1
  go_enter Try.func64, Try.ntmps64
  go_wp2
  go_ret
  exact ⟨rfl, rfl⟩

set_option maxRecDepth 100000 in
set_option maxHeartbeats 1000000 in
theorem oUp_any (v b : Int) (w : World) (hb : 2 ≤ b) (hb2 : b ≤ 100) (hv : 0 ≤ v) (hv2 : v ≤ 1000000) :
    Calls Try.prog 65 #[.int .i64 v, .int .i64 b] w fun e w' => e = .returned (.int .i64 (upV b v)) ∧ w = w' := by
  obtain ⟨q, hq⟩ : ∃ q, (v + b - 1).tdiv b = q := ⟨_, rfl⟩
  have h1 := dnV_bd hb hv
  have hq1 : upV b v = q := hq
  rw [hq1] at h1 ⊢
  have W1 : IntKind.i64.wrap q = q := IntWalk.i64_in _ ⟨by omega, by omega⟩
  have hb0 : ¬ b = 0 := by omega
  clear h1 hq1
  go_enter Try.func65, Try.ntmps65
  go_wp2
  go_ret
  exact ⟨rfl, rfl⟩

theorem oDown_q (v b : Int) (w : World) (hb : 2 ≤ b) (hb2 : b ≤ 100) (hv : 0 ≤ v) (hv2 : v ≤ 1000000) : Calls Try.prog 64 #[.int .i64 v, .int .i64 b] w fun e w' => e = .returned (.int .i64 (dnV b v)) ∧ w' = w := (oDown_any v b w hb hb2 hv hv2).mono fun _ _ ⟨h1, h2⟩ => ⟨h1, h2.symm⟩
/-- The network at its beginning, with two empty lists beside it. -/
theorem NetM.start {w wc : World} {T6 : Nat} {t : Net} (hb : Below T6 wc w) (hs : T6 + 3 ≤ w.heap.size) (h7 : w.heap[T6 + 1]? = some (.cells #[] 3 (0, 0))) (h8 : w.heap[T6 + 2]? = some (.cells #[] 3 (0, 0))) :
    NetM wc w T6 (T6 + 1) (upF (upF (fun _ => none) 2 ⟨T6 + 1, 0, []⟩) 3 ⟨T6 + 2, 0, []⟩) none none none none 0 0 0 0 0 0 0 0 t := by
  have own : ∀ g, T6 + 1 ≤ g → w.heap[g]? = some (.cells #[] 3 (0, 0)) → Own w (T6 + 1) (some ⟨g, 0, none⟩) 0 0 [] := fun g hg h => ⟨by simp, .inr ⟨g, 0, #[], rfl, hg, h, Nat.le_refl _, Nat.zero_le _, by simp, by simp⟩⟩
  have f1 : Fam w (T6 + 1) (upF (fun _ => none) 2 ⟨T6 + 1, 0, []⟩) := (Fam.nil (w := w)).put (own (T6 + 1) (Nat.le_refl _) h7) fun j s _ h => (by cases h)
  have f2 := f1.put (i := 3) (w' := w) (r := ⟨T6 + 2, 0, []⟩) (own (T6 + 2) (by omega) h8) fun j s hj h => by
    by_cases e : j = 2
    · subst e
      rw [upF_at] at h
      obtain rfl := Option.some.inj h
      exact ⟨by show T6 + 1 ≠ T6 + 2; omega, rfl⟩
    · rw [upF_ne e] at h; cases h
  have tn : ∀ {idx : Nat → Nat} {L : Nat → List Int}, Top w (T6 + 1) (upF (upF (fun _ => none) 2 ⟨T6 + 1, 0, []⟩) 3 ⟨T6 + 2, 0, []⟩) idx none 0 0 0 L := fun {idx L} => ⟨[], World.ownsRow_nil _ _ _ _, fun t ht => absurd ht (by omega)⟩
  exact ⟨f2, .inl ⟨rfl, rfl, rfl, rfl⟩, .inl ⟨rfl, rfl, rfl, rfl⟩, tn, tn, fun g h => (by cases h), hb, by omega, by omega⟩

theorem four_new (w : World) (o1 o2 o3 o4 : Obj) {g : Nat} (hg : w.heap.size = g) : ((((w.alloc o1).alloc o2).alloc o3).alloc o4).heap[g]? = some o1 ∧ ((((w.alloc o1).alloc o2).alloc o3).alloc o4).heap[g + 1]? = some o2 ∧ ((((w.alloc o1).alloc o2).alloc o3).alloc o4).heap[g + 1 + 1]? = some o3 ∧ ((((w.alloc o1).alloc o2).alloc o3).alloc o4).heap[g + 1 + 2]? = some o4 ∧ Below g w ((((w.alloc o1).alloc o2).alloc o3).alloc o4) ∧ ((((w.alloc o1).alloc o2).alloc o3).alloc o4).heap.size = g + 4 := by
  subst hg
  have s1 : (w.alloc o1).heap.size = w.heap.size + 1 := World.size_alloc _ _
  have s2 : ((w.alloc o1).alloc o2).heap.size = w.heap.size + 2 := by rw [World.size_alloc, s1]
  have s3 : (((w.alloc o1).alloc o2).alloc o3).heap.size = w.heap.size + 3 := by rw [World.size_alloc, s2]
  have s4 : ((((w.alloc o1).alloc o2).alloc o3).alloc o4).heap.size = w.heap.size + 4 := by rw [World.size_alloc, s3]
  have b1 := below_new w o1
  have b2 := below_new (w.alloc o1) o2
  have b3 := below_new ((w.alloc o1).alloc o2) o3
  have b4 := below_new (((w.alloc o1).alloc o2).alloc o3) o4
  refine ⟨?_, ?_, ?_, ?_, ((b1.trans (b2.mono (by omega))).trans (b3.mono (by omega))).trans (b4.mono (by omega)), s4⟩
  · rw [b4.block _ (by omega), b3.block _ (by omega), b2.block _ (by omega)]; exact heap_alloc_new w o1
  · rw [b4.block _ (by omega), b3.block _ (by omega), ← s1]; exact heap_alloc_new _ o2
  · rw [b4.block _ (by omega), show w.heap.size + 1 + 1 = w.heap.size + 2 from rfl, ← s2]; exact heap_alloc_new _ o3
  · rw [show w.heap.size + 1 + 2 = w.heap.size + 3 by omega, ← s3]; exact heap_alloc_new _ o4

set_option maxRecDepth 100000 in
set_option maxHeartbeats 8000000 in
theorem oNetwork_any (n m : Nat) (b : Int) (A : Option Addr) (ca : Nat) (x : Nat → Nat → Int) (w : World) (hx : MatR w A n m x) (hM : MxB n m b x) :
    Calls Try.prog 28 #[.slice A n ca, .int .i64 b] w fun e w' => ∃ (R C L H : Option Addr) (rc cc lc hc B : Nat) (wc : World) (T6 : Nat) (f : Nat → Option Rw), e = .returned (.agg #[.slice R (n + 1) rc, .slice C (m + 1) cc, .slice L (n + 1) lc, .slice H (n + 1) hc]) ∧ w.heap.size ≤ B ∧ NetM wc w' T6 B f R C L H (n + 1) rc (m + 1) cc (n + 1) lc (n + 1) hc (netOf n m b x) ∧ Below w.heap.size w w' := by
  have HM := Lib.hid hM
  have hn7 := hM.n7
  have hm7 := hM.m7
  have hn1 := hM.n1
  have hm1 := hM.m1
  have hb2 := hM.b2
  have hb100 := hM.b100
  obtain ⟨T4, hT4⟩ : ∃ T4, w.heap.size = T4 := ⟨_, rfl⟩
  have HT4 := Lib.hid hT4
  have b0 := below_new w (.cells #[.slice none 0 0, .slice none 0 0, .slice none 0 0, .slice none 0 0] 54)
  have x0 := box_new w #[.slice none 0 0, .slice none 0 0, .slice none 0 0, .slice none 0 0] 54
  have hz1 : (w.alloc (.cells #[.slice none 0 0, .slice none 0 0, .slice none 0 0, .slice none 0 0] 54)).heap.size = T4 + 1 := by rw [← HT4.out]; simp
  have HX1 := Lib.hid (IntsS.below hx b0)
  rw [hT4] at x0
  have B0 := Lib.hid b0
  have X0 := Lib.hid x0
  have HZ1 := Lib.hid hz1
  have HXB : Hid (∀ i j, i < n → j < m → 0 ≤ x i j ∧ x i j ≤ 1000000) := Lib.hid (fun i j hi hj => by have := hM.x i j hi hj; omega)
  clear hx hM b0 x0 hz1
  go_enter Try.func28, Try.ntmps28
  go_wp2_with fail
  generalize w.alloc (.cells #[.slice none 0 0, .slice none 0 0, .slice none 0 0, .slice none 0 0] 54) = w1 at *
  refine (oMargins_any n m A ca x _ HX1.out hn1 (by omega) hm1 (by omega) HXB.out).mono ?_
  rintro e w2 ⟨p0, p1, p2, p3, Mc, Mr, Mo, mc, mr, mo, rfl, o2, hp2, b2⟩
  obtain ⟨T5, hT5⟩ : ∃ T5, w2.heap.size = T5 := ⟨_, rfl⟩
  obtain ⟨hs1, hs2, hs3, hs4⟩ := HM.out.sums
  have hqd := fun W => oDown_q (totS n m x) b W hb2 hb100 hs3 (by omega)
  obtain ⟨dn1, dn2, _, _⟩ := dnV_bd hb2 hs3
  have hdle : dnV b (totS n m x) ≤ 490000 := by have := dnV_bd hb2 hs3; omega
  obtain ⟨dt, hdt⟩ : ∃ dt, dnV b (totS n m x) = dt := ⟨_, rfl⟩
  have HDT := Lib.hid hdt
  obtain ⟨tt, htt⟩ : ∃ tt, totS n m x = tt := ⟨_, rfl⟩
  rw [htt] at hqd hdt dn1 dn2 hdle hs3 hs4
  rw [hdt] at hqd dn1 hdle
  have HTT := Lib.hid htt
  have HQD := Lib.hid hqd
  have HS1 := Lib.hid hs1
  have HS2 := Lib.hid hs2
  rw [htt]
  have W9 : IntKind.i64.wrap (-dt) = -dt := IntWalk.i64_in _ ⟨by omega, by omega⟩
  have hT5' : T4 + 1 ≤ T5 := by have := b2.size; rw [HZ1.out] at this; omega
  have HO2 := Lib.hid o2
  have HB2 := Lib.hid b2
  have z5 := box_new w2 #[.slice Mc n mc, .slice Mr n mr, .slice Mo m mo, .int .i64 tt] 26
  rw [hT5] at z5
  have HT5 := Lib.hid hT5
  clear hs1 hs2 hqd hdt htt b2 o2 dn2
  go_wp2_with fail
  obtain ⟨y5, y6, y7, y8, hb4, hs4'⟩ := four_new w2 (.cells #[.slice Mc n mc, .slice Mr n mr, .slice Mo m mo, .int .i64 tt] 26) (.cells #[.slice none 0 0, .slice none 0 0, .slice none 0 0, .slice none 0 0] 54) (.cells #[] 3) (.cells #[] 3) HT5.out
  have HY5 := Lib.hid y5
  have HY6 := Lib.hid y6
  have HY7 := Lib.hid y7
  have HY8 := Lib.hid y8
  have HB4 := Lib.hid hb4
  have HS4 := Lib.hid hs4'
  clear y5 y6 y7 y8 hb4 hs4' z5
  generalize (((w2.alloc (.cells #[.slice Mc n mc, .slice Mr n mr, .slice Mo m mo, .int .i64 tt] 26)).alloc (.cells #[.slice none 0 0, .slice none 0 0, .slice none 0 0, .slice none 0 0] 54)).alloc (.cells #[] 3)).alloc (.cells #[] 3) = wc at *
  have q3 := box_cell HY5.out 3 (.int .i64 tt) rfl
  go_quiet ((go_at_call 64; with_reducible exact Calls.quiet_of_same (HQD.out _)))
  go_wp2_with fail
  clear W9 q3 HQD
  have HY5d : Hid ((wc.drewN nq).heap[T5]? = _) := Lib.hid HY5.out
  have HY6d : Hid ((wc.drewN nq).heap[T5 + 1]? = _) := Lib.hid HY6.out
  have HBd : Hid (Below T5 w2 (wc.drewN nq)) := Lib.hid (below_drewN HB4.out _)
  have HNS : Hid (NetM (wc.drewN nq) (wc.drewN nq) (T5 + 1) (T5 + 1 + 1) (upF (upF (fun _ => none) 2 ⟨T5 + 1 + 1, 0, []⟩) 3 ⟨T5 + 1 + 2, 0, []⟩) none none none none 0 0 0 0 0 0 0 0 (netOf n m b x)) := Lib.hid (NetM.start (Below.refl _ _) (by show T5 + 1 + 3 ≤ wc.heap.size; have := HS4.out; omega) HY7.out HY8.out)
  have HF23 : Hid ((upF (upF (fun _ => none) 2 (⟨T5 + 1 + 1, 0, []⟩ : Rw)) 3 ⟨T5 + 1 + 2, 0, []⟩) 2 = some ⟨T5 + 1 + 1, 0, []⟩ ∧ (upF (upF (fun _ => none) 2 (⟨T5 + 1 + 1, 0, []⟩ : Rw)) 3 ⟨T5 + 1 + 2, 0, []⟩) 3 = some ⟨T5 + 1 + 2, 0, []⟩) := Lib.hid ⟨by rw [upF_ne (by decide), upF_at], upF_at⟩
  have HFN : Hid (∀ i, 4 + 2 * 0 ≤ i → (upF (upF (fun _ => none) 2 (⟨T5 + 1 + 1, 0, []⟩ : Rw)) 3 ⟨T5 + 1 + 2, 0, []⟩) i = none) := Lib.hid (fun i hi => by rw [upF_ne (by omega), upF_ne (by omega)])
  generalize (upF (upF (fun _ => none) 2 (⟨T5 + 1 + 1, 0, []⟩ : Rw)) 3 ⟨T5 + 1 + 2, 0, []⟩) = f0 at *
  clear HY5 HY6 HY7 HY8 HB4 HS4
  generalize wc.drewN nq = wd at *
  -- the network's numbers
  obtain ⟨t, ht⟩ : ∃ t, netOf n m b x = t := ⟨_, rfl⟩
  have TN : Hid (netOf n m b x = t) := Lib.hid ht
  rw [ht] at HNS
  have TM : Hid (t.m = m + 1) := Lib.hid (by rw [← ht]; rfl)
  have TNN : Hid (t.n = n + 1) := Lib.hid (by rw [← ht]; rfl)
  have TR : Hid (∀ i, i < n → t.R i = upV b (rowS m x i)) := Lib.hid (fun i hi => by rw [← ht]; exact if_pos hi)
  have TRn : Hid (t.R n = sm m (fun j => upV b (colS n x j)) - dt) := Lib.hid (by rw [← ht, ← HDT.out]; exact if_neg (by omega))
  have TC : Hid (∀ j, j < m → t.C j = upV b (colS n x j)) := Lib.hid (fun j hj => by rw [← ht]; exact if_pos hj)
  have TCm : Hid (t.C m = sm n (fun i => upV b (rowS m x i)) - dt) := Lib.hid (by rw [← ht, ← HDT.out]; exact if_neg (by omega))
  have TL : Hid (∀ i j, i < n → j < m → t.lo i j = dnV b (x i j)) := Lib.hid (fun i j hi hj => by rw [← ht]; exact if_pos ⟨hi, hj⟩)
  have TL0 : Hid (∀ i j, ¬ (i < n ∧ j < m) → t.lo i j = 0) := Lib.hid (fun i j h => by rw [← ht]; exact if_neg h)
  have TH : Hid (∀ i j, i < n → j < m → t.hi i j = upV b (x i j)) := Lib.hid (fun i j hi hj => by rw [← ht]; exact if_pos ⟨hi, hj⟩)
  have TH1 : Hid (∀ i, i < n → t.hi i m = upV b (rowS m x i) - dnV b (rowS m x i)) := Lib.hid (fun i hi => by
    rw [← ht]; show (if i < n ∧ m < m then _ else if i < n then _ else _) = _
    rw [if_neg (by omega), if_pos hi])
  have TH2 : Hid (∀ j, j < m → t.hi n j = upV b (colS n x j) - dnV b (colS n x j)) := Lib.hid (fun j hj => by
    rw [← ht]; show (if n < n ∧ j < m then _ else if n < n then _ else if j < m then _ else _) = _
    rw [if_neg (by omega), if_neg (by omega), if_pos hj])
  have TH3 : Hid (t.hi n m = upV b tt - dt) := Lib.hid (by
    rw [← ht]; show (if n < n ∧ m < m then _ else if n < n then _ else if m < m then _ else _) = _
    rw [if_neg (by omega), if_neg (by omega), if_neg (by omega), HTT.out, ← HTT.out, HDT.out])
  clear ht
  have hHC : Hid (-490000 ≤ sm n (fun i => upV b (rowS m x i)) - dt ∧ sm n (fun i => upV b (rowS m x i)) - dt ≤ 490000) := Lib.hid (by
    have h1 := sm_bd (n := n) (f := fun i => upV b (rowS m x i)) (b := 70000) (fun q hq => by have h2 := HS1.out q hq; have h3 := dnV_bd hb2 h2.1; omega)
    omega)
  have HSz : Hid (sm 0 (fun i => upV b (rowS m x i)) - dt = -dt) := Lib.hid (by simp [sm])
  go_loopw [10, 37] (fun cv iv wr => ∃ (k : Nat) (f : Nat → Option Rw) (D A E : Option Addr) (cD cA cE : Nat), k ≤ n ∧ iv = .int .i64 k ∧ cv = .int .i64 (sm k (fun i => upV b (rowS m x i)) - dt) ∧ Hid (wr.heap[T5 + 1]? = some (.cells #[.slice D k cD, .slice none 0 0, .slice A k cA, .slice E k cE] 54 (0, 0))) ∧ Hid (NetM wd wr (T5 + 1) (T5 + 1 + 1) f D none A E k cD 0 0 k cA k cE t) ∧ Hid (f 2 = some ⟨T5 + 1 + 1, 0, []⟩ ∧ f 3 = some ⟨T5 + 1 + 2, 0, []⟩) ∧ Hid (∀ i, 4 + 2 * k ≤ i → f i = none)) (fun _ iv _ => n - (intOf iv).toNat)
  case atStart => exact ⟨0, f0, none, none, none, 0, 0, 0, Nat.zero_le _, rfl, by rw [HSz.out], HY6d, HNS, HF23, HFN⟩
  case round =>
    clear HNS HF23 HFN HSz
    obtain ⟨k, f, D, A2, E, cD, cA, cE, hk, rfl, rfl, HBox, HNM, HF23, HFN⟩ := hrel
    have hb1 : Below T5 w2 wr := HBd.out.trans (HNM.out.old.mono (by omega))
    by_cases hlt : k < n
    --DEVA
    · obtain ⟨wo, rfl⟩ : ∃ wo : World, wo = wr := ⟨_, rfl⟩
      have hbx : Below w1.heap.size w1 wo := HB2.out.trans (hb1.mono (by rw [HZ1.out]; exact hT5'))
      obtain ⟨ax, rfl, V, cv, cl1, hv⟩ := matR_row HX1.out hlt
      have cl := (hbx.cell (block_lt_of_cell cl1)).trans cl1
      have HV := Lib.hid hv
      have HS0 : Hid (Sl f (4 + 2 * k) none 0 (lst 0 (t.lo k)) ∧ Sl f (5 + 2 * k) none 0 (lst 0 (t.hi k))) := Lib.hid ⟨.inl ⟨HFN.out _ (by omega), rfl, rfl, rfl⟩, .inl ⟨HFN.out _ (by omega), rfl, rfl, rfl⟩⟩
      have HFN2 : Hid (∀ i, 6 + 2 * k ≤ i → f i = none) := Lib.hid (fun i hi => HFN.out i (by omega))
      have hbx2 := Lib.hid hb1
      clear hv hb1 hbx HFN
      go_wp2_with fail
      clear cl cl1
      go_loopw [13, 14, 44] (fun pv qv jv wr => ∃ (j : Nat) (f : Nat → Option Rw) (P Q : Option Addr) (cP cQ : Nat), j ≤ m ∧ jv = .int .i64 j ∧ pv = .slice P j cP ∧ qv = .slice Q j cQ ∧ Hid (Sl f (4 + 2 * k) P cP (lst j (t.lo k)) ∧ Sl f (5 + 2 * k) Q cQ (lst j (t.hi k))) ∧ Hid (wr.heap[T5 + 1]? = some (.cells #[.slice D k cD, .slice none 0 0, .slice A2 k cA, .slice E k cE] 54 (0, 0))) ∧ Hid (NetM wd wr (T5 + 1) (T5 + 1 + 1) f D none A2 E k cD 0 0 k cA k cE t) ∧ Hid (f 2 = some ⟨T5 + 1 + 1, 0, []⟩ ∧ f 3 = some ⟨T5 + 1 + 2, 0, []⟩) ∧ Hid (∀ i, 6 + 2 * k ≤ i → f i = none) ∧ Hid (Below w1.heap.size w1 wr)) (fun _ _ jv _ => m - (intOf jv).toNat)
      case atStart => exact ⟨0, f, none, none, 0, 0, Nat.zero_le _, rfl, rfl, rfl, HS0, HBox, HNM, HF23, HFN2, Lib.hid (HB2.out.trans (hbx2.out.mono (by rw [HZ1.out]; exact hT5')))⟩
      case round =>
        clear HS0 HBox HNM HF23 HFN2 hbx2
        obtain ⟨j, f, P, Q, cP, cQ, hj, rfl, rfl, rfl, HSl, HBox, HNM, HF23, HFN, HB⟩ := hrel
        by_cases hlj : j < m
        · obtain ⟨av, rfl, cx⟩ := vecR_at (Ints.below HV.out HB.out) hlj
          obtain ⟨hv0, hv1⟩ := HM.out.x k j hlt hlj
          have hP := HSl.out.1.own HNM.out.fam
          rw [lst_len] at hP
          have hz := HNM.out.sz
          have HR1 := Lib.hid (fun (P2 : Option Addr) (c2 : Nat) (w6 : World) ho hg hd => HNM.out.rowStep (P2 := P2) (c2 := c2) (w' := w6) (i := 4 + 2 * k) (i' := 5 + 2 * k) (K := 6 + 2 * k) (by omega) (by omega) (fun z hz => by omega) (fun z hz => by omega) (by omega) HSl.out.1 HSl.out.2 HFN.out (TL.out k j hlt hlj).symm HBox.out HB.out (by rw [HZ1.out]; omega) ho hg hd)
          have hq1 := Lib.hid (fun W => oDown_any (x k j) b W hb2 hb100 hv0 (by omega))
          have hq2 := Lib.hid (fun W => oUp_any (x k j) b W hb2 hb100 hv0 (by omega))
          have hqT := Lib.hid (TH.out k j hlt hlj)
          generalize dnV b (x k j) = dv at *
          generalize upV b (x k j) = uv at *
          generalize x k j = v at *
          go_wp2_with fail
          refine (hq1.out _).mono ?_
          rintro e w3 ⟨rfl, rfl⟩
          clear cx
          go_wp2_with (at_builtin; refine wp_app1 rfl _ _ rfl (T5 + 1 + 1) P j cP _ rfl hP _ rfl rfl (by omega) hz ?_; intro P2 cP2 w6 ho6 hg6 hd6; obtain ⟨b6, f6, rfl, n6, s6, s6', e6, no6, bx6, bl6⟩ := HR1.out P2 cP2 w6 ho6 hg6 hd6; have hQ := s6'.own n6.fam; rw [lst_len] at hQ; have hz6 := n6.sz; have N6 := Lib.hid n6; have S6 := Lib.hid s6; have S6' := Lib.hid s6'; have E6 := Lib.hid e6; have NO6 := Lib.hid no6; have BX6 := Lib.hid bx6; have BL6 := Lib.hid bl6; clear ho6 hg6 hd6 n6 s6 s6' e6 no6 bx6 bl6)
          refine (hq2.out _).mono ?_
          rintro e w7 ⟨rfl, rfl⟩
          have HR2 := Lib.hid (fun (Q2 : Option Addr) (c2 : Nat) (w8 : World) ho hg hd => N6.out.rowStep (P2 := Q2) (c2 := c2) (w' := w8) (i := 5 + 2 * k) (i' := 4 + 2 * k) (K := 6 + 2 * k) (by omega) (by omega) (fun z hz => by omega) (fun z hz => by omega) (by omega) S6'.out S6.out NO6.out hqT.out.symm BX6.out BL6.out (by rw [HZ1.out]; omega) ho hg hd)
          clear hP hz HR1 hq1 hq2
          go_wp2_with (at_builtin; refine wp_app1 rfl _ _ rfl (T5 + 1 + 1) Q j cQ _ rfl hQ _ rfl rfl (by omega) hz6 ?_; intro Q2 cQ2 w8 ho8 hg8 hd8; obtain ⟨b8, f8, rfl, n8, s8, s8', e8, no8, bx8, bl8⟩ := HR2.out Q2 cQ2 w8 ho8 hg8 hd8; have N8 := Lib.hid n8; have S8 := Lib.hid (And.intro s8' s8); have E8 := Lib.hid (And.intro (e8.1.trans (E6.out.1.trans HF23.out.1)) (e8.2.trans (E6.out.2.trans HF23.out.2))); have NO8 := Lib.hid no8; have BX8 := Lib.hid bx8; have BL8 := Lib.hid bl8; clear ho8 hg8 hd8 n8 s8 s8' e8 no8 bx8 bl8)
          go_roundw
          case rel => exact ⟨j + 1, f8, _, _, cP2, cQ2, by omega, by go_num, rfl, rfl, S8, BX8, N8, E8, NO8, BL8⟩
          case measure => simp [intOf]; omega
        · obtain rfl : j = m := by omega
          obtain ⟨gP, rfl⟩ : ∃ gP, P = some ⟨gP, 0, none⟩ := by
            obtain ⟨rP, _, hPe, _, _⟩ := HSl.out.1.some (lst_len _ _) hm1
            exact ⟨rP.b, hPe⟩
          have hP := HSl.out.1.own HNM.out.fam
          rw [lst_len] at hP
          have hz := HNM.out.sz
          have HR3 := Lib.hid (fun (P2 : Option Addr) (c2 : Nat) (w6 : World) ho hg hd => HNM.out.rowStep (P2 := P2) (c2 := c2) (w' := w6) (i := 4 + 2 * k) (i' := 5 + 2 * k) (K := 6 + 2 * k) (v := 0) (by omega) (by omega) (fun z hz => by omega) (fun z hz => by omega) (by omega) HSl.out.1 HSl.out.2 HFN.out (TL0.out k j (by omega)).symm HBox.out HB.out (by rw [HZ1.out]; omega) ho hg hd)
          obtain ⟨rv, hrv⟩ : ∃ rv, rowS j x k = rv := ⟨_, rfl⟩
          have HRV := Lib.hid hrv
          have hr0 := HS1.out k hlt
          rw [hrv] at hr0
          have r5 := box_cell ((HNM.out.old.block T5 (by omega)).trans HY5d.out) 1 (.slice Mr n mr) rfl
          have hvr : VecR wr Mr n (rowS j x) := Ints.below HO2.out.r.ints (by rw [HT5.out]; exact HBd.out.trans (HNM.out.old.mono (by omega)))
          obtain ⟨ar, rfl, cr⟩ := vecR_at hvr hlt
          rw [hrv] at cr
          have h0 := box_cell HBox.out 2 (.slice A2 k cA) rfl
          have h1 : (wr.alloc (.cells #[.int .i64 0] 3)).cell? ⟨T5 + 1, 2, none⟩ = some (.slice A2 k cA) := box_cell (box_below HBox.out (below_new _ _)) 2 _ rfl
          clear hrv hvr
          go_upto_region 16 with (fail)
          clear r5 cr
          go_cut [] (fun wx => ∃ (f' : Nat → Option Rw) (A3 : Option Addr) (cA3 : Nat), Hid (wx.heap[T5 + 1]? = some (.cells #[.slice D k cD, .slice none 0 0, .slice A3 (k + 1) cA3, .slice E k cE] 54 (0, 0))) ∧ Hid (NetM wd wx (T5 + 1) (T5 + 1 + 1) f' D none A3 E k cD 0 0 (k + 1) cA3 k cE t) ∧ Hid (Sl f' (5 + 2 * k) Q cQ (lst j (t.hi k))) ∧ Hid (f' 2 = some ⟨T5 + 1 + 1, 0, []⟩ ∧ f' 3 = some ⟨T5 + 1 + 2, 0, []⟩) ∧ Hid (∀ i, 6 + 2 * k ≤ i → f' i = none))
          case first =>
            obtain ⟨i1, hi1, hz1, hz2, hz3⟩ := info_parts Try.infoIntS
            have HTM := TM.out
            go_region_law ((first
              | (refine step_app1d (by rfl) _ _ (by rfl) (T5 + 1 + 1) (some ⟨gP, 0, none⟩) j cP (lst j (t.lo k)) (by rfl) (by exact hP) _ (by rfl) (by rfl) (by omega) (by exact hz) ?_; intro P2 c2 w7 own7 grow7 hd7; obtain ⟨b7, f7, rfl, n7, s7, s7', e7, no7, bx7, bl7⟩ := HR3.out P2 c2 w7 own7 grow7 hd7; have h2 := box_cell bx7 2 (.slice A2 k cA) rfl; have h3 : (w7.alloc (.cells #[.slice (some ⟨b7, 0, none⟩) (j + 1) c2] 24)).cell? ⟨T5 + 1, 2, none⟩ = some (.slice A2 k cA) := box_cell (box_below bx7 (below_new _ _)) 2 _ rfl; obtain ⟨ys7, hys7, hys7'⟩ := n7.a; have N7 := Lib.hid n7; have S7 := Lib.hid s7; have S7' := Lib.hid s7'; have E7 := Lib.hid e7; have NO7 := Lib.hid no7; have BX7 := Lib.hid bx7; have BL7 := Lib.hid bl7; have YS7 := Lib.hid hys7'; clear own7 grow7 hd7 n7 s7 s7' e7 no7 bx7 bl7 hys7')
              | (refine step_appG (sz := 1) (bytes := 24) (by rfl) _ _ (by rfl) Try.underlying22 hi1 hz1 hz2 hz3 rfl (by omega) (by omega) (by rfl) (by simp [Value.oneCell']) (T5 + 1 + 1) A2 k cA ys7 (by rfl) (by exact hys7) _ (by rfl) (by rfl) (by omega) (by exact N7.out.sz) ?_; intro A3 c3 w8 own8 grow8 hd8; obtain ⟨y1, y2, y3⟩ := N7.out.loStep hys7 YS7.out (by rw [TM.out]; exact S7.out) (by rw [TM.out]; omega) BX7.out (by rw [TM.out]; exact own8) grow8 hd8; have h4 := box_cell y1 2 (.slice A2 k cA) rfl; have h5 := box_free y1 2; have Y2 := Lib.hid y2; have Y3 := Lib.hid y3; clear y1 y2 y3 own8 grow8 hd8)))
            all_goals (go_wp2_with fail; go_meet)
            all_goals exact ⟨f7, A3, c3, Y3, Y2, S7', Lib.hid ⟨E7.out.1.trans HF23.out.1, E7.out.2.trans HF23.out.2⟩, NO7⟩
          case rest =>
            obtain ⟨f1, A3, cA3, HBox1, HNM1, HSl1, HF231, HFN1⟩ := hcut
            clear HR3 hP hz h0 h1 HSl HBox HNM HF23 HFN HB
            -- the upper bounds of the row
            obtain ⟨gQ, rfl⟩ : ∃ gQ, Q = some ⟨gQ, 0, none⟩ := by
              obtain ⟨rP, _, hPe, _, _⟩ := HSl1.out.some (lst_len _ _) hm1
              exact ⟨rP.b, hPe⟩
            have hQ := HSl1.out.own HNM1.out.fam
            rw [lst_len] at hQ
            have hz := HNM1.out.sz
            have hbd := dnV_bd hb2 hr0.1
            have hqU := Lib.hid (fun W => oUp_any rv b W hb2 hb100 hr0.1 (by omega))
            have hqD := Lib.hid (fun W => oDown_any rv b W hb2 hb100 hr0.1 (by omega))
            have HTH1 : Hid (t.hi k j = upV b rv - dnV b rv) := Lib.hid (by rw [TH1.out k hlt, HRV.out])
            have HTR : Hid (t.R k = upV b rv) := Lib.hid (by rw [TR.out k hlt, HRV.out])
            have HSM : Hid (sm (k + 1) (fun i => upV b (rowS j x i)) = sm k (fun i => upV b (rowS j x i)) + upV b rv) := Lib.hid (by rw [sm_succ, HRV.out])
            have hub : 0 ≤ upV b rv ∧ upV b rv ≤ 70000 ∧ 0 ≤ dnV b rv ∧ dnV b rv ≤ upV b rv := by omega
            have hsmb : 0 ≤ sm k (fun i => upV b (rowS j x i)) ∧ sm k (fun i => upV b (rowS j x i)) ≤ 490000 := by
              have h1 := sm_bd (n := k) (f := fun i => upV b (rowS j x i)) (b := 70000) (fun q hq => by have h2 := HS1.out q (by omega); have h3 := dnV_bd hb2 h2.1; omega)
              omega
            generalize upV b rv = uv at *
            generalize dnV b rv = dv at *
            generalize sm k (fun i => upV b (rowS j x i)) = sk at *
            obtain ⟨hu1, hu2, hu3, hu4⟩ := hub
            obtain ⟨hsm1, hsm2⟩ := hsmb
            have HR3 := Lib.hid (fun (P2 : Option Addr) (c2 : Nat) (w6 : World) (ho : Own w6 (T5 + 1 + 1) P2 (j + 1) c2 (lst j (t.hi k) ++ [uv - dv])) hg hd => HNM1.out.rowStep (P2 := P2) (c2 := c2) (w' := w6) (q := 0) (w1 := wc) (i := 5 + 2 * k) (i' := 2) (ys := []) (Q := some ⟨T5 + 1 + 1, 0, none⟩) (cQ := 0) (K := 6 + 2 * k) (v := uv - dv) (by omega) (by omega) (fun z hz => by omega) (fun z hz => by omega) (by omega) HSl1.out (.inr ⟨_, HF231.out.1, rfl, rfl, rfl⟩) HFN1.out HTH1.out.symm HBox1.out (Below.refl _ _) (Nat.zero_le _) ho hg hd)
            have h0 := box_cell HBox1.out 3 (.slice E k cE) rfl
            have h1 : (wc.alloc (.cells #[.int .i64 (uv - dv)] 3)).cell? ⟨T5 + 1, 3, none⟩ = some (.slice E k cE) := box_cell (box_below HBox1.out (below_new _ _)) 3 _ rfl
            have W1 : IntKind.i64.wrap (uv - dv) = uv - dv := IntWalk.i64_in _ ⟨by omega, by omega⟩
            clear hbd
            go_upto_region 17 with (fail)
            go_cut [] (fun wx => ∃ (f' : Nat → Option Rw) (E3 : Option Addr) (cE3 : Nat), Hid (wx.heap[T5 + 1]? = some (.cells #[.slice D k cD, .slice none 0 0, .slice A3 (k + 1) cA3, .slice E3 (k + 1) cE3] 54 (0, 0))) ∧ Hid (NetM wd wx (T5 + 1) (T5 + 1 + 1) f' D none A3 E3 k cD 0 0 (k + 1) cA3 (k + 1) cE3 t) ∧ Hid (f' 2 = some ⟨T5 + 1 + 1, 0, []⟩ ∧ f' 3 = some ⟨T5 + 1 + 2, 0, []⟩) ∧ Hid (∀ i, 6 + 2 * k ≤ i → f' i = none))
            case first =>
              obtain ⟨i1, hi1, hz1, hz2, hz3⟩ := info_parts Try.infoIntS
              have HBoxd : Hid ((World.drew wc).heap[T5 + 1]? = _) := Lib.hid HBox1.out
              have HNMd := Lib.hid (HNM1.out.below (Below.refl _ _).drew)
              have hQd : Own (World.drew wc) _ _ _ _ _ := hQ.below (Below.refl _ _).drew
              have hzd : T5 + 1 + 1 ≤ (World.drew wc).heap.size := hz
              have h0d : (World.drew wc).cell? ⟨T5 + 1, 3, none⟩ = some (.slice E k cE) := h0
              have h1d : ((World.drew wc).alloc (.cells #[.int .i64 (uv - dv)] 3)).cell? ⟨T5 + 1, 3, none⟩ = some (.slice E k cE) := h1
              have HR3d := Lib.hid (fun (P2 : Option Addr) (c2 : Nat) (w6 : World) (ho : Own w6 (T5 + 1 + 1) P2 (j + 1) c2 (lst j (t.hi k) ++ [uv - dv])) (hg : (World.drew wc).grownBy w6 (rowOf (some ⟨gQ, 0, none⟩))) (hd : rowOf P2 = rowOf (some ⟨gQ, 0, none⟩) ∨ rowOf P2 = some ((World.drew wc).heap.size + 1)) => HR3.out P2 c2 w6 ho ⟨hg.os, hg.tape, hg.output, hg.size, hg.block⟩ hd)
              clear HBox1 HNM1 hQ hz h0 h1 HR3
              refine AnyE.region 15 (fun w' => w'.cell? ⟨T5 + 1, 3, none⟩ = some (.slice E k cE)) (by kernel_rfl) (by exact h0d) (fun hHeld => ?_)
              generalize World.drew wc = wq at *
              refine AnyE.take (i := 0) (d := 74) (v := ?_) rfl (by kernel_rfl) (by kernel_rfl) (by kernel_rfl) (by kernel_rfl) (by kernel_rfl) (fun _ _ _ h => h) (Or.inl ⟨by rfl, ?_⟩) (by assumption) ?_
              rotate_left
              · (intro w hSw; (try dsimp only at hSw); go_simp; try with_reducible rfl)
              simp only [Act.put, List.setIfInBounds_toArray, List.set_cons_zero, List.set_cons_succ]
              refine AnyE.take (i := 1) (d := 75) (v := ?_) rfl (by kernel_rfl) (by kernel_rfl) (by kernel_rfl) (by kernel_rfl) (by kernel_rfl) (fun _ _ _ h => h) (Or.inl ⟨by rfl, ?_⟩) (by assumption) ?_
              rotate_left
              · (intro w hSw; (try dsimp only at hSw); go_simp; try with_reducible rfl)
              simp only [Act.put, List.setIfInBounds_toArray, List.set_cons_zero, List.set_cons_succ]
              refine AnyE.take (i := 2) (d := 76) (v := ?_) rfl (by kernel_rfl) (by kernel_rfl) (by kernel_rfl) (by kernel_rfl) (by kernel_rfl) (fun _ _ _ h => h) (Or.inl ⟨by rfl, ?_⟩) (by assumption) ?_
              rotate_left
              · (intro w hSw; (try dsimp only at hSw); go_simp; try with_reducible rfl)
              simp only [Act.put, List.setIfInBounds_toArray, List.set_cons_zero, List.set_cons_succ]
              refine AnyE.take (i := 3) (d := 77) (v := ?_) rfl (by kernel_rfl) (by kernel_rfl) (by kernel_rfl) (by kernel_rfl) (by kernel_rfl) (fun _ _ _ h => h) (Or.inl ⟨by rfl, ?_⟩) (by assumption) ?_
              rotate_left
              · (intro w hSw; (try dsimp only at hSw); go_simp; try with_reducible rfl)
              simp only [Act.put, List.setIfInBounds_toArray, List.set_cons_zero, List.set_cons_succ]
              refine AnyE.take (i := 4) (d := 78) (v := ?_) rfl (by kernel_rfl) (by kernel_rfl) (by kernel_rfl) (by kernel_rfl) (by kernel_rfl) (fun _ _ _ h => h) (Or.inl ⟨by rfl, ?_⟩) (by assumption) ?_
              rotate_left
              · (intro w hSw; (try dsimp only at hSw); go_simp; try with_reducible rfl)
              simp only [Act.put, List.setIfInBounds_toArray, List.set_cons_zero, List.set_cons_succ]
              refine AnyE.take (i := 6) (d := 80) (v := ?_) rfl (by kernel_rfl) (by kernel_rfl) (by kernel_rfl) (by kernel_rfl) (by kernel_rfl) (fun _ _ _ h => h) (Or.inl ⟨by rfl, ?_⟩) (by assumption) ?_
              rotate_left
              · (intro w hSw; (try dsimp only at hSw); go_simp; try with_reducible rfl)
              simp only [Act.put, List.setIfInBounds_toArray, List.set_cons_zero, List.set_cons_succ]
              refine AnyE.take (i := 7) (d := 81) (v := ?_) rfl (by kernel_rfl) (by kernel_rfl) (by kernel_rfl) (by kernel_rfl) (by kernel_rfl) (fun _ _ _ h => h) (Or.inl ⟨by rfl, ?_⟩) (by assumption) ?_
              rotate_left
              · (intro w hSw; (try dsimp only at hSw); go_simp; try with_reducible rfl)
              simp only [Act.put, List.setIfInBounds_toArray, List.set_cons_zero, List.set_cons_succ]
              refine AnyE.step (i := 5) (by kernel_rfl) (by rfl) rfl (fun K hK => ?_)
              go_simp
              go_at_call 65
              (with_reducible refine (hqU.out _).mono ?_)
              rintro e w6 ⟨rfl, rfl⟩
              go_wp2_with fail
              refine hK.out _ _ ?_ (fun hHeld => ?_)
              · exact h0d
              clear hK K
              try simp only [Act.put, List.setIfInBounds_toArray, List.set_cons_zero, List.set_cons_succ]
              refine AnyE.step (i := 8) (by kernel_rfl) (by rfl) rfl (fun K hK => ?_)
              go_simp
              go_at_call 64
              (with_reducible refine (hqD.out _).mono ?_)
              rintro e w6 ⟨rfl, rfl⟩
              go_wp2_with fail
              refine hK.out _ _ ?_ (fun hHeld => ?_)
              · exact h0d
              clear hK K
              try simp only [Act.put, List.setIfInBounds_toArray, List.set_cons_zero, List.set_cons_succ]
              refine AnyE.take (i := 9) (d := 83) (v := ?_) rfl (by kernel_rfl) (by kernel_rfl) (by kernel_rfl) (by kernel_rfl) (by kernel_rfl) (fun _ _ _ h => h) (Or.inl ⟨by rfl, ?_⟩) (by assumption) ?_
              rotate_left
              · (intro w hSw; (try dsimp only at hSw); go_simp; try with_reducible rfl)
              simp only [Act.put, List.setIfInBounds_toArray, List.set_cons_zero, List.set_cons_succ]
              refine AnyE.step (i := 10) (by kernel_rfl) (by rfl) rfl (fun K hK => ?_)
              go_simp
              refine hK.out _ _ ?_ (fun hHeld => ?_)
              · exact h1d
              clear hK K
              try simp only [Act.put, List.setIfInBounds_toArray, List.set_cons_zero, List.set_cons_succ]
              refine AnyE.step (i := 11) (by kernel_rfl) (by rfl) rfl (fun K hK => ?_)
              refine step_app1m (by rfl) _ _ (by rfl) (T5 + 1 + 1) (some ⟨gQ, 0, none⟩) j cQ (lst j (t.hi k)) (by rfl) (by exact hQd) _ (by rfl) (by rfl) (by omega) (by exact hzd) ?_
              intro P2 c2 w7 own7 grow7 hd7
              obtain ⟨b7, f7, rfl, n7, s7, s7', e7, no7, bx7, bl7⟩ := HR3d.out P2 c2 w7 own7 grow7 hd7
              have h2 := box_cell bx7 3 (.slice E k cE) rfl
              have h3 : (w7.alloc (.cells #[.slice (some ⟨b7, 0, none⟩) (j + 1) c2] 24)).cell? ⟨T5 + 1, 3, none⟩ = some (.slice E k cE) := box_cell (box_below bx7 (below_new _ _)) 3 _ rfl
              obtain ⟨ys7, hys7, hys7'⟩ := n7.e
              have N7 := Lib.hid n7
              have S7 := Lib.hid s7
              have E7 := Lib.hid e7
              have NO7 := Lib.hid no7
              have BX7 := Lib.hid bx7
              have YS7 := Lib.hid hys7'
              clear own7 grow7 hd7 n7 s7 s7' e7 no7 bx7 bl7 hys7'
              refine hK.out _ _ ?_ (fun hHeld => ?_)
              · exact h2
              clear hK K
              try simp only [Act.put, List.setIfInBounds_toArray]
              refine AnyE.step (i := 12) (by kernel_rfl) (by rfl) rfl (fun K hK => ?_)
              go_simp
              refine hK.out _ _ ?_ (fun hHeld => ?_)
              · exact h3
              clear hK K
              try simp only [Act.put, List.setIfInBounds_toArray, List.set_cons_zero, List.set_cons_succ]
              refine AnyE.step (i := 13) (by kernel_rfl) (by rfl) rfl (fun K hK => ?_)
              refine step_appG (sz := 1) (bytes := 24) (by rfl) _ _ (by rfl) Try.underlying22 hi1 hz1 hz2 hz3 rfl (by omega) (by omega) (by rfl) (by simp [Value.oneCell']) (T5 + 1 + 1) E k cE ys7 (by rfl) (by exact hys7) _ (by rfl) (by rfl) (by omega) (by exact N7.out.sz) ?_
              intro E3 c3 w8 own8 grow8 hd8
              obtain ⟨y1, y2, y3⟩ := N7.out.hiStep hys7 YS7.out (by rw [TM.out]; exact S7.out) (by rw [TM.out]; omega) BX7.out (by rw [TM.out]; exact own8) grow8 hd8
              have h4 := box_cell y1 3 (.slice E k cE) rfl
              have h5 := box_free y1 3
              have Y2 := Lib.hid y2
              have Y3 := Lib.hid y3
              clear y1 y2 y3 own8 grow8 hd8
              refine hK.out _ _ ?_ (fun hHeld => ?_)
              · exact h4
              clear hK K
              try simp only [Act.put, List.setIfInBounds_toArray]
              refine AnyE.take (i := 14) (d := 88) (v := ?_) rfl (by kernel_rfl) (by kernel_rfl) (by kernel_rfl) (by kernel_rfl) (by kernel_rfl) (fun _ _ _ h => h) (Or.inl ⟨by rfl, ?_⟩) (by assumption) ?_
              rotate_left
              · (intro w hSw; (try dsimp only at hSw); go_simp; try with_reducible rfl)
              simp only [Act.put]
              refine AnyE.last (i := 15) (by kernel_rfl) rfl rfl (by kernel_rfl) (fun K hK => ?_)
              go_simp
              refine hK.out _ _ ?_
              clear hK K
              go_wp2_with fail
              go_meet
              exact ⟨f7, E3, c3, Y3, Y2, Lib.hid ⟨E7.out.1.trans HF231.out.1, E7.out.2.trans HF231.out.2⟩, NO7⟩
            case rest =>
              obtain ⟨f2, E3, cE3, HBox2, HNM2, HF232, HFN2⟩ := hcut
              obtain ⟨wu, rfl⟩ : ∃ wu : World, wu = wc := ⟨_, rfl⟩
              clear HR3 hQ hz h0 h1 W1 HSl1 HBox1 HNM1 HF231 HFN1
              -- the sums of the rows
              have hD := HNM2.out.d.own HNM2.out.fam
              rw [lst_len] at hD
              have hz := HNM2.out.sz
              have h0 := box_cell HBox2.out 0 (.slice D k cD) rfl
              have h1 : (wu.alloc (.cells #[.int .i64 uv] 3)).cell? ⟨T5 + 1, 0, none⟩ = some (.slice D k cD) := box_cell (box_below HBox2.out (below_new _ _)) 0 _ rfl
              have HR4 := Lib.hid (fun (D2 : Option Addr) (c2 : Nat) (w6 : World) (ho : Own w6 (T5 + 1 + 1) D2 (k + 1) c2 (lst k t.R ++ [uv])) hg hd => HNM2.out.rowsStep (D2 := D2) (c2 := c2) (w' := w6) (v := uv) (K := 6 + 2 * k) (by omega) HFN2.out HTR.out.symm HBox2.out ho hg hd)
              go_upto_region 18 with (fail)
              go_cut [] (fun wx => ∃ (f' : Nat → Option Rw) (D3 : Option Addr) (cD3 : Nat), Hid (wx.heap[T5 + 1]? = some (.cells #[.slice D3 (k + 1) cD3, .slice none 0 0, .slice A3 (k + 1) cA3, .slice E3 (k + 1) cE3] 54 (0, 0))) ∧ Hid (NetM wd wx (T5 + 1) (T5 + 1 + 1) f' D3 none A3 E3 (k + 1) cD3 0 0 (k + 1) cA3 (k + 1) cE3 t) ∧ Hid (f' 2 = some ⟨T5 + 1 + 1, 0, []⟩ ∧ f' 3 = some ⟨T5 + 1 + 2, 0, []⟩) ∧ Hid (∀ i, 4 + 2 * (k + 1) ≤ i → f' i = none))
              case first =>
                have HBoxd : Hid ((World.drew wu).heap[T5 + 1]? = _) := Lib.hid HBox2.out
                have HNMd := Lib.hid (HNM2.out.below (Below.refl _ _).drew)
                have hDd : Own (World.drew wu) _ _ _ _ _ := hD.below (Below.refl _ _).drew
                have hzd : T5 + 1 + 1 ≤ (World.drew wu).heap.size := hz
                have h0d : (World.drew wu).cell? ⟨T5 + 1, 0, none⟩ = some (.slice D k cD) := h0
                have h1d : ((World.drew wu).alloc (.cells #[.int .i64 uv] 3)).cell? ⟨T5 + 1, 0, none⟩ = some (.slice D k cD) := h1
                have HR4d := Lib.hid (fun (D2 : Option Addr) (c2 : Nat) (w6 : World) (ho : Own w6 (T5 + 1 + 1) D2 (k + 1) c2 (lst k t.R ++ [uv])) (hg : (World.drew wu).grownBy w6 (rowOf D)) (hd : rowOf D2 = rowOf D ∨ rowOf D2 = some ((World.drew wu).heap.size + 1)) => HR4.out D2 c2 w6 ho ⟨hg.os, hg.tape, hg.output, hg.size, hg.block⟩ hd)
                refine AnyE.region 8 (fun w' => w'.cell? ⟨T5 + 1, 0, none⟩ = some (.slice D k cD)) (by kernel_rfl) (by exact h0d) (fun hHeld => ?_)
                generalize World.drew wu = wq at *
                refine AnyE.take (i := 0) (d := 89) (v := ?_) rfl (by kernel_rfl) (by kernel_rfl) (by kernel_rfl) (by kernel_rfl) (by kernel_rfl) (fun _ _ _ h => h) (Or.inl ⟨by rfl, ?_⟩) (by assumption) ?_
                rotate_left
                · (intro w hSw; (try dsimp only at hSw); go_simp; try with_reducible rfl)
                simp only [Act.put, List.setIfInBounds_toArray, List.set_cons_zero, List.set_cons_succ]
                refine AnyE.take (i := 1) (d := 90) (v := ?_) rfl (by kernel_rfl) (by kernel_rfl) (by kernel_rfl) (by kernel_rfl) (by kernel_rfl) (fun _ _ _ h => h) (Or.inl ⟨by rfl, ?_⟩) (by assumption) ?_
                rotate_left
                · (intro w hSw; (try dsimp only at hSw); go_simp; try with_reducible rfl)
                simp only [Act.put, List.setIfInBounds_toArray, List.set_cons_zero, List.set_cons_succ]
                refine AnyE.take (i := 2) (d := 91) (v := ?_) rfl (by kernel_rfl) (by kernel_rfl) (by kernel_rfl) (by kernel_rfl) (by kernel_rfl) (fun _ _ _ h => h) (Or.inl ⟨by rfl, ?_⟩) (by assumption) ?_
                rotate_left
                · (intro w hSw; (try dsimp only at hSw); go_simp; try with_reducible rfl)
                simp only [Act.put, List.setIfInBounds_toArray, List.set_cons_zero, List.set_cons_succ]
                refine AnyE.take (i := 3) (d := 92) (v := ?_) rfl (by kernel_rfl) (by kernel_rfl) (by kernel_rfl) (by kernel_rfl) (by kernel_rfl) (fun _ _ _ h => h) (Or.inl ⟨by rfl, ?_⟩) (by assumption) ?_
                rotate_left
                · (intro w hSw; (try dsimp only at hSw); go_simp; try with_reducible rfl)
                simp only [Act.put, List.setIfInBounds_toArray, List.set_cons_zero, List.set_cons_succ]
                refine AnyE.step (i := 4) (by kernel_rfl) (by rfl) rfl (fun K hK => ?_)
                go_simp
                go_at_call 65
                (with_reducible refine (hqU.out _).mono ?_)
                rintro e w6 ⟨rfl, rfl⟩
                go_wp2_with fail
                refine hK.out _ _ ?_ (fun hHeld => ?_)
                · exact h0d
                clear hK K
                try simp only [Act.put, List.setIfInBounds_toArray, List.set_cons_zero, List.set_cons_succ]
                refine AnyE.step (i := 5) (by kernel_rfl) (by rfl) rfl (fun K hK => ?_)
                go_simp
                refine hK.out _ _ ?_ (fun hHeld => ?_)
                · exact h1d
                clear hK K
                try simp only [Act.put, List.setIfInBounds_toArray, List.set_cons_zero, List.set_cons_succ]
                refine AnyE.step (i := 6) (by kernel_rfl) (by rfl) rfl (fun K hK => ?_)
                refine step_app1m (by rfl) _ _ (by rfl) (T5 + 1 + 1) D k cD (lst k t.R) (by rfl) (by exact hDd) _ (by rfl) (by rfl) (by omega) (by exact hzd) ?_
                intro D3 c2 w7 own7 grow7 hd7
                obtain ⟨f7, ⟨bx7, n7, bx8⟩, e7, no7⟩ := HR4d.out D3 c2 w7 own7 grow7 hd7
                have h2 := box_cell bx7 0 (.slice D k cD) rfl
                have h3 := box_free bx7 0
                have N7 := Lib.hid n7
                have E7 := Lib.hid e7
                have NO7 := Lib.hid no7
                have BX7 := Lib.hid bx8
                clear own7 grow7 hd7 n7 e7 no7 bx7 bx8
                refine hK.out _ _ ?_ (fun hHeld => ?_)
                · exact h2
                clear hK K
                try simp only [Act.put, List.setIfInBounds_toArray]
                refine AnyE.take (i := 7) (d := 96) (v := ?_) rfl (by kernel_rfl) (by kernel_rfl) (by kernel_rfl) (by kernel_rfl) (by kernel_rfl) (fun _ _ _ h => h) (Or.inl ⟨by rfl, ?_⟩) (by assumption) ?_
                rotate_left
                · (intro w hSw; (try dsimp only at hSw); go_simp; try with_reducible rfl)
                simp only [Act.put]
                refine AnyE.last (i := 8) (by kernel_rfl) rfl rfl (by kernel_rfl) (fun K hK => ?_)
                go_simp
                refine hK.out _ _ ?_
                clear hK K
                go_wp2_with fail
                go_meet
                exact ⟨f7, D3, c2, BX7, N7, Lib.hid ⟨(E7.out 2 (by decide)).trans HF232.out.1, (E7.out 3 (by decide)).trans HF232.out.2⟩, Lib.hid (fun i hi => NO7.out i (by omega))⟩
              case rest =>
                obtain ⟨f3, D3, cD3, HBox3, HNM3, HF233, HFN3⟩ := hcut
                clear HR4 hD hz h0 h1 HBox2 HNM2 HF232 HFN2
                go_wp2_with fail
                refine (hqU.out _).mono ?_
                rintro e w6 ⟨rfl, rfl⟩
                go_wp2
                go_roundw
                case rel => exact ⟨k + 1, f3, D3, A3, E3, cD3, cA3, cE3, by omega, by go_num, by rw [HSM.out]; congr 1; omega, HBox3, HNM3, HF233, HFN3⟩
                case measure => simp [intOf]; omega
    --DEVB
    · obtain rfl : k = n := by omega
      have hl7 : f (4 + 2 * k) = none := HFN.out _ (by omega)
      have hl8 : mvF f 2 (4 + 2 * k) (5 + 2 * k) = none := by rw [mvF_ne (by omega) (by omega)]; exact HFN.out _ (by omega)
      have hm1' := HNM.out.move (i := 2) (i' := 4 + 2 * k) hl7 (by omega) (by omega) (by omega) (fun q hq => by omega) (fun q hq => by omega)
      have HNM1 := Lib.hid (hm1'.move (i := 3) (i' := 5 + 2 * k) hl8 (by omega) (by omega) (by omega) (fun q hq => by omega) (fun q hq => by omega))
      have HSl : Hid (Sl (mvF (mvF f 2 (4 + 2 * k)) 3 (5 + 2 * k)) (4 + 2 * k) (some ⟨T5 + 1 + 1, 0, none⟩) 0 (lst 0 (t.lo k)) ∧ Sl (mvF (mvF f 2 (4 + 2 * k)) 3 (5 + 2 * k)) (5 + 2 * k) (some ⟨T5 + 1 + 2, 0, none⟩) 0 (lst 0 (t.hi k))) := Lib.hid ⟨.inr ⟨_, by rw [mvF_ne (by omega) (by omega), mvF_at]; exact HF23.out.1, rfl, rfl, rfl⟩, .inr ⟨_, by rw [mvF_at, mvF_ne (by omega) (by omega)]; exact HF23.out.2, rfl, rfl, rfl⟩⟩
      have HFN1 : Hid (∀ i, 6 + 2 * k ≤ i → mvF (mvF f 2 (4 + 2 * k)) 3 (5 + 2 * k) i = none) := Lib.hid (fun i hi => by rw [mvF_ne (by omega) (by omega), mvF_ne (by omega) (by omega)]; exact HFN.out i (by omega))
      generalize mvF (mvF f 2 (4 + 2 * k)) 3 (5 + 2 * k) = f1 at *
      have HT5r := Lib.hid (fun (wx : World) (h : Below (T5 + 1) wd wx) => (h.block T5 (by omega)).trans HY5d.out)
      have HVC := Lib.hid (fun (wx : World) (h : Below (T5 + 1) wd wx) => (show VecR wx Mo m (colS k x) from Ints.below HO2.out.c.ints (by rw [HT5.out]; exact HBd.out.trans (h.mono (by omega)))))
      have r5 := box_cell (HT5r.out _ HNM.out.old) 2 (.slice Mo m mo) rfl
      have HTCN : Hid (sm k (fun i => upV b (rowS m x i)) - dt = t.C m) := Lib.hid TCm.out.symm
      have HSz : Hid (sm 0 (fun j => upV b (colS k x j)) - dt = -dt) := Lib.hid (by simp [sm])
      have hcm := hHC.out
      generalize htcm : sm k (fun i => upV b (rowS m x i)) - dt = tcm at *
      clear htcm hl7 hl8 hm1' HF23 HFN HNM hb1
      go_wp2_with fail
      clear r5
      go_loopw [7, 8, 9, 106] (fun pv qv cv jv wr => ∃ (j : Nat) (f : Nat → Option Rw) (P Q C : Option Addr) (cP cQ cC : Nat), j ≤ m ∧ jv = .int .i64 j ∧ pv = .slice P j cP ∧ qv = .slice Q j cQ ∧ cv = .int .i64 (sm j (fun j => upV b (colS k x j)) - dt) ∧ Hid (Sl f (4 + 2 * k) P cP (lst j (t.lo k)) ∧ Sl f (5 + 2 * k) Q cQ (lst j (t.hi k))) ∧ Hid (wr.heap[T5 + 1]? = some (.cells #[.slice D k cD, .slice C j cC, .slice A2 k cA, .slice E k cE] 54 (0, 0))) ∧ Hid (NetM wd wr (T5 + 1) (T5 + 1 + 1) f D C A2 E k cD j cC k cA k cE t) ∧ Hid (∀ i, 6 + 2 * k ≤ i → f i = none)) (fun _ _ _ jv _ => m - (intOf jv).toNat)
      case atStart => exact ⟨0, f1, _, _, none, 0, 0, 0, Nat.zero_le _, rfl, rfl, rfl, by rw [HSz.out], HSl, HBox, HNM1, HFN1⟩
      case round =>
        clear HSl HBox HNM1 HFN1 HSz
        obtain ⟨j, f, P, Q, C, cP, cQ, cC, hj, rfl, rfl, rfl, rfl, HSl, HBox, HNM, HFN⟩ := hrel
        by_cases hlj : j < m
        --DEVC
        · obtain ⟨av, hav, cx⟩ := vecR_at (HVC.out _ HNM.out.old) hlj
          subst hav
          obtain ⟨cv, hcv⟩ : ∃ cv, colS k x j = cv := ⟨_, rfl⟩
          have HCV := Lib.hid hcv
          rw [hcv] at cx
          have hr0 := HS2.out j hlj
          rw [hcv] at hr0
          have hbd := dnV_bd hb2 hr0.1
          have hqU := Lib.hid (fun W => oUp_any cv b W hb2 hb100 hr0.1 (by omega))
          have hqD := Lib.hid (fun W => oDown_any cv b W hb2 hb100 hr0.1 (by omega))
          have HTH1 : Hid (t.hi k j = upV b cv - dnV b cv) := Lib.hid (by rw [TH2.out j hlj, HCV.out])
          have HTC : Hid (t.C j = upV b cv) := Lib.hid (by rw [TC.out j hlj, HCV.out])
          have HSM : Hid (sm (j + 1) (fun j => upV b (colS k x j)) = sm j (fun j => upV b (colS k x j)) + upV b cv) := Lib.hid (by rw [sm_succ, HCV.out])
          have hub : 0 ≤ upV b cv ∧ upV b cv ≤ 70000 ∧ 0 ≤ dnV b cv ∧ dnV b cv ≤ upV b cv := by omega
          have hsmb : 0 ≤ sm j (fun j => upV b (colS k x j)) ∧ sm j (fun j => upV b (colS k x j)) ≤ 490000 := by
            have h1 := sm_bd (n := j) (f := fun j => upV b (colS k x j)) (b := 70000) (fun q hq => by have h2 := HS2.out q (by omega); have h3 := dnV_bd hb2 h2.1; omega)
            omega
          generalize upV b cv = uv at *
          generalize dnV b cv = dv at *
          generalize sm j (fun j => upV b (colS k x j)) = sk at *
          obtain ⟨hu1, hu2, hu3, hu4⟩ := hub
          obtain ⟨hsm1, hsm2⟩ := hsmb
          have hP := HSl.out.1.own HNM.out.fam
          rw [lst_len] at hP
          have hz := HNM.out.sz
          have HR1 := Lib.hid (fun (P2 : Option Addr) (c2 : Nat) (w6 : World) (ho : Own w6 (T5 + 1 + 1) P2 (j + 1) c2 (lst j (t.lo k) ++ [0])) hg hd => HNM.out.rowStep (P2 := P2) (c2 := c2) (w' := w6) (q := 0) (w1 := wr) (i := 4 + 2 * k) (i' := 5 + 2 * k) (K := 6 + 2 * k) (by omega) (by omega) (fun z hz => by omega) (fun z hz => by omega) (by omega) HSl.out.1 HSl.out.2 HFN.out (TL0.out k j (by omega)).symm HBox.out (Below.refl _ _) (Nat.zero_le _) ho hg hd)
          have W1 : IntKind.i64.wrap (uv - dv) = uv - dv := IntWalk.i64_in _ ⟨by omega, by omega⟩
          clear hcv hbd hr0
          go_wp2_with (at_builtin; refine wp_app1 rfl _ _ rfl (T5 + 1 + 1) P j cP _ rfl hP _ rfl rfl (by omega) hz ?_; intro P2 cP2 w6 ho6 hg6 hd6; obtain ⟨b6, f6, rfl, n6, s6, s6', e6, no6, bx6, bl6⟩ := HR1.out P2 cP2 w6 ho6 hg6 hd6; have hQ := s6'.own n6.fam; rw [lst_len] at hQ; have hz6 := n6.sz; have N6 := Lib.hid n6; have S6 := Lib.hid s6; have S6' := Lib.hid s6'; have NO6 := Lib.hid no6; have BX6 := Lib.hid bx6; clear ho6 hg6 hd6 n6 s6 s6' e6 no6 bx6 bl6 cx)
          refine (hqU.out _).mono ?_
          rintro e w7 ⟨rfl, rfl⟩
          go_wp2_with fail
          refine (hqD.out _).mono ?_
          rintro e w7 ⟨rfl, rfl⟩
          have HR2 := Lib.hid (fun (Q2 : Option Addr) (c2 : Nat) (w8 : World) (ho : Own w8 (T5 + 1 + 1) Q2 (j + 1) c2 (lst j (t.hi k) ++ [uv - dv])) hg hd => N6.out.rowStep (P2 := Q2) (c2 := c2) (w' := w8) (q := 0) (w1 := w6) (i := 5 + 2 * k) (i' := 4 + 2 * k) (K := 6 + 2 * k) (by omega) (by omega) (fun z hz => by omega) (fun z hz => by omega) (by omega) S6'.out S6.out NO6.out HTH1.out.symm BX6.out (Below.refl _ _) (Nat.zero_le _) ho hg hd)
          clear hP hz HR1
          go_wp2_with (at_builtin; refine wp_app1 rfl _ _ rfl (T5 + 1 + 1) Q j cQ _ rfl hQ _ rfl rfl (by omega) hz6 ?_; intro Q2 cQ2 w8 ho8 hg8 hd8; obtain ⟨b8, f8, rfl, n8, s8, s8', e8, no8, bx8, bl8⟩ := HR2.out Q2 cQ2 w8 ho8 hg8 hd8; have N8 := Lib.hid n8; have S8 := Lib.hid (And.intro s8' s8); have NO8 := Lib.hid no8; have BX8 := Lib.hid bx8; clear ho8 hg8 hd8 n8 s8 s8' e8 no8 bx8 bl8)
          clear hQ hz6 HR2 N6 S6 S6' NO6 BX6 W1
          have hC := N8.out.c.own N8.out.fam
          rw [lst_len] at hC
          have hz := N8.out.sz
          have h0 := box_cell BX8.out 1 (.slice C j cC) rfl
          have h1 : (w8.alloc (.cells #[.int .i64 uv] 3)).cell? ⟨T5 + 1, 1, none⟩ = some (.slice C j cC) := box_cell (box_below BX8.out (below_new _ _)) 1 _ rfl
          have HR4 := Lib.hid (fun (D2 : Option Addr) (c2 : Nat) (w6 : World) (ho : Own w6 (T5 + 1 + 1) D2 (j + 1) c2 (lst j t.C ++ [uv])) hg hd => N8.out.colsStep (C2 := D2) (c2 := c2) (w' := w6) (v := uv) (K := 6 + 2 * k) (by omega) NO8.out HTC.out.symm BX8.out ho hg hd)
          go_upto_region 26 with (fail)
          go_cut [] (fun wx => ∃ (f' : Nat → Option Rw) (D3 : Option Addr) (cD3 : Nat), Hid (wx.heap[T5 + 1]? = some (.cells #[.slice D k cD, .slice D3 (j + 1) cD3, .slice A2 k cA, .slice E k cE] 54 (0, 0))) ∧ Hid (NetM wd wx (T5 + 1) (T5 + 1 + 1) f' D D3 A2 E k cD (j + 1) cD3 k cA k cE t) ∧ Hid (∀ i, i ≠ 1 → f' i = f8 i) ∧ Hid (∀ i, 6 + 2 * k ≤ i → f' i = none))
          case first =>
            have HBoxd : Hid ((World.drew w8).heap[T5 + 1]? = _) := Lib.hid BX8.out
            have HNMd := Lib.hid (N8.out.below (Below.refl _ _).drew)
            have hDd : Own (World.drew w8) _ _ _ _ _ := hC.below (Below.refl _ _).drew
            have hzd : T5 + 1 + 1 ≤ (World.drew w8).heap.size := hz
            have h0d : (World.drew w8).cell? ⟨T5 + 1, 1, none⟩ = some (.slice C j cC) := h0
            have h1d : ((World.drew w8).alloc (.cells #[.int .i64 uv] 3)).cell? ⟨T5 + 1, 1, none⟩ = some (.slice C j cC) := h1
            have HR4d := Lib.hid (fun (D2 : Option Addr) (c2 : Nat) (w6 : World) (ho : Own w6 (T5 + 1 + 1) D2 (j + 1) c2 (lst j t.C ++ [uv])) (hg : (World.drew w8).grownBy w6 (rowOf C)) (hd : rowOf D2 = rowOf C ∨ rowOf D2 = some ((World.drew w8).heap.size + 1)) => HR4.out D2 c2 w6 ho ⟨hg.os, hg.tape, hg.output, hg.size, hg.block⟩ hd)
            refine AnyE.region 8 (fun w' => w'.cell? ⟨T5 + 1, 1, none⟩ = some (.slice C j cC)) (by kernel_rfl) (by exact h0d) (fun hHeld => ?_)
            generalize World.drew w8 = wq at *
            refine AnyE.take (i := 0) (d := 123) (v := ?_) rfl (by kernel_rfl) (by kernel_rfl) (by kernel_rfl) (by kernel_rfl) (by kernel_rfl) (fun _ _ _ h => h) (Or.inl ⟨by rfl, ?_⟩) (by assumption) ?_
            rotate_left
            · (intro w hSw; (try dsimp only at hSw); go_simp; try with_reducible rfl)
            simp only [Act.put, List.setIfInBounds_toArray, List.set_cons_zero, List.set_cons_succ]
            refine AnyE.take (i := 1) (d := 124) (v := ?_) rfl (by kernel_rfl) (by kernel_rfl) (by kernel_rfl) (by kernel_rfl) (by kernel_rfl) (fun _ _ _ h => h) (Or.inl ⟨by rfl, ?_⟩) (by assumption) ?_
            rotate_left
            · (intro w hSw; (try dsimp only at hSw); go_simp; try with_reducible rfl)
            simp only [Act.put, List.setIfInBounds_toArray, List.set_cons_zero, List.set_cons_succ]
            refine AnyE.take (i := 2) (d := 125) (v := ?_) rfl (by kernel_rfl) (by kernel_rfl) (by kernel_rfl) (by kernel_rfl) (by kernel_rfl) (fun _ _ _ h => h) (Or.inl ⟨by rfl, ?_⟩) (by assumption) ?_
            rotate_left
            · (intro w hSw; (try dsimp only at hSw); go_simp; try with_reducible rfl)
            simp only [Act.put, List.setIfInBounds_toArray, List.set_cons_zero, List.set_cons_succ]
            refine AnyE.take (i := 3) (d := 126) (v := ?_) rfl (by kernel_rfl) (by kernel_rfl) (by kernel_rfl) (by kernel_rfl) (by kernel_rfl) (fun _ _ _ h => h) (Or.inl ⟨by rfl, ?_⟩) (by assumption) ?_
            rotate_left
            · (intro w hSw; (try dsimp only at hSw); go_simp; try with_reducible rfl)
            simp only [Act.put, List.setIfInBounds_toArray, List.set_cons_zero, List.set_cons_succ]
            refine AnyE.step (i := 4) (by kernel_rfl) (by rfl) rfl (fun K hK => ?_)
            go_simp
            go_at_call 65
            (with_reducible refine (hqU.out _).mono ?_)
            rintro e w6 ⟨rfl, rfl⟩
            go_wp2_with fail
            refine hK.out _ _ ?_ (fun hHeld => ?_)
            · exact h0d
            clear hK K
            try simp only [Act.put, List.setIfInBounds_toArray, List.set_cons_zero, List.set_cons_succ]
            refine AnyE.step (i := 5) (by kernel_rfl) (by rfl) rfl (fun K hK => ?_)
            go_simp
            refine hK.out _ _ ?_ (fun hHeld => ?_)
            · exact h1d
            clear hK K
            try simp only [Act.put, List.setIfInBounds_toArray, List.set_cons_zero, List.set_cons_succ]
            refine AnyE.step (i := 6) (by kernel_rfl) (by rfl) rfl (fun K hK => ?_)
            refine step_app1m (by rfl) _ _ (by rfl) (T5 + 1 + 1) C j cC (lst j t.C) (by rfl) (by exact hDd) _ (by rfl) (by rfl) (by omega) (by exact hzd) ?_
            intro D3 c2 w7 own7 grow7 hd7
            obtain ⟨f7, ⟨bx7, n7, bx8⟩, e7, no7⟩ := HR4d.out D3 c2 w7 own7 grow7 hd7
            have h2 := box_cell bx7 1 (.slice C j cC) rfl
            have h3 := box_free bx7 1
            have N7 := Lib.hid n7
            have E7 := Lib.hid e7
            have NO7 := Lib.hid no7
            have BX7 := Lib.hid bx8
            clear own7 grow7 hd7 n7 e7 no7 bx7 bx8
            refine hK.out _ _ ?_ (fun hHeld => ?_)
            · exact h2
            clear hK K
            try simp only [Act.put, List.setIfInBounds_toArray]
            refine AnyE.take (i := 7) (d := 130) (v := ?_) rfl (by kernel_rfl) (by kernel_rfl) (by kernel_rfl) (by kernel_rfl) (by kernel_rfl) (fun _ _ _ h => h) (Or.inl ⟨by rfl, ?_⟩) (by assumption) ?_
            rotate_left
            · (intro w hSw; (try dsimp only at hSw); go_simp; try with_reducible rfl)
            simp only [Act.put]
            refine AnyE.last (i := 8) (by kernel_rfl) rfl rfl (by kernel_rfl) (fun K hK => ?_)
            go_simp
            refine hK.out _ _ ?_
            clear hK K
            go_wp2_with fail
            go_meet
            exact ⟨f7, D3, c2, BX7, N7, E7, NO7⟩
          case rest =>
            obtain ⟨f3, D3, cD3, HBox3, HNM3, HE3, HFN3⟩ := hcut
            have S9 : Hid (Sl f3 (4 + 2 * k) (some ⟨b6, 0, none⟩) cP2 (lst (j + 1) (t.lo k)) ∧ Sl f3 (5 + 2 * k) (some ⟨b8, 0, none⟩) cQ2 (lst (j + 1) (t.hi k))) := Lib.hid ⟨S8.out.1.same (HE3.out _ (by omega)), S8.out.2.same (HE3.out _ (by omega))⟩
            clear HR4 hC hz h0 h1 BX8 N8 S8 NO8
            go_wp2_with fail
            refine (hqU.out _).mono ?_
            rintro e w6 ⟨rfl, rfl⟩
            go_wp2
            go_roundw
            case rel => exact ⟨j + 1, f3, _, _, D3, cP2, cQ2, cD3, by omega, by go_num, rfl, rfl, by rw [HSM.out]; congr 1; omega, S9, HBox3, HNM3, HFN3⟩
            case measure => simp [intOf]; omega
        --DEVD
        · obtain rfl : j = m := by omega
          obtain ⟨gP, rfl⟩ : ∃ gP, P = some ⟨gP, 0, none⟩ := by
            obtain ⟨rP, _, hPe, _, _⟩ := HSl.out.1.some (lst_len _ _) hm1
            exact ⟨rP.b, hPe⟩
          have hP := HSl.out.1.own HNM.out.fam
          rw [lst_len] at hP
          have hz := HNM.out.sz
          have HR3 := Lib.hid (fun (P2 : Option Addr) (c2 : Nat) (w6 : World) (ho : Own w6 (T5 + 1 + 1) P2 (j + 1) c2 (lst j (t.lo k) ++ [0])) hg hd => HNM.out.rowStep (P2 := P2) (c2 := c2) (w' := w6) (q := 0) (w1 := wr) (i := 4 + 2 * k) (i' := 5 + 2 * k) (K := 6 + 2 * k) (v := 0) (by omega) (by omega) (fun z hz => by omega) (fun z hz => by omega) (by omega) HSl.out.1 HSl.out.2 HFN.out (TL0.out k j (by omega)).symm HBox.out (Below.refl _ _) (Nat.zero_le _) ho hg hd)
          have h0 := box_cell HBox.out 2 (.slice A2 k cA) rfl
          have h1 : (wr.alloc (.cells #[.int .i64 0] 3)).cell? ⟨T5 + 1, 2, none⟩ = some (.slice A2 k cA) := box_cell (box_below HBox.out (below_new _ _)) 2 _ rfl
          have HCL : Hid (sm j (fun j => upV b (colS k x j)) - dt = t.R k) := Lib.hid TRn.out.symm
          have hsmb : 0 ≤ sm j (fun j => upV b (colS k x j)) ∧ sm j (fun j => upV b (colS k x j)) ≤ 490000 := by
            have h1 := sm_bd (n := j) (f := fun j => upV b (colS k x j)) (b := 70000) (fun q hq => by have h2 := HS2.out q (by omega); have h3 := dnV_bd hb2 h2.1; omega)
            omega
          generalize hrk : sm j (fun j => upV b (colS k x j)) - dt = rk at *
          have hrkb : -490000 ≤ rk ∧ rk ≤ 490000 := by omega
          clear hrk hsmb
          go_upto_region 29 with (fail)
          go_cut [] (fun wx => ∃ (f' : Nat → Option Rw) (A3 : Option Addr) (cA3 : Nat), Hid (wx.heap[T5 + 1]? = some (.cells #[.slice D k cD, .slice C j cC, .slice A3 (k + 1) cA3, .slice E k cE] 54 (0, 0))) ∧ Hid (NetM wd wx (T5 + 1) (T5 + 1 + 1) f' D C A3 E k cD j cC (k + 1) cA3 k cE t) ∧ Hid (Sl f' (5 + 2 * k) Q cQ (lst j (t.hi k))) ∧ Hid (∀ i, 6 + 2 * k ≤ i → f' i = none))
          case first =>
            obtain ⟨i1, hi1, hz1, hz2, hz3⟩ := info_parts Try.infoIntS
            go_region_law ((first
              | (refine step_app1d (by rfl) _ _ (by rfl) (T5 + 1 + 1) (some ⟨gP, 0, none⟩) j cP (lst j (t.lo k)) (by rfl) (by exact hP) _ (by rfl) (by rfl) (by omega) (by exact hz) ?_; intro P2 c2 w7 own7 grow7 hd7; obtain ⟨b7, f7, rfl, n7, s7, s7', e7, no7, bx7, bl7⟩ := HR3.out P2 c2 w7 own7 grow7 hd7; have h2 := box_cell bx7 2 (.slice A2 k cA) rfl; have h3 : (w7.alloc (.cells #[.slice (some ⟨b7, 0, none⟩) (j + 1) c2] 24)).cell? ⟨T5 + 1, 2, none⟩ = some (.slice A2 k cA) := box_cell (box_below bx7 (below_new _ _)) 2 _ rfl; obtain ⟨ys7, hys7, hys7'⟩ := n7.a; have N7 := Lib.hid n7; have S7 := Lib.hid s7; have S7' := Lib.hid s7'; have NO7 := Lib.hid no7; have BX7 := Lib.hid bx7; have YS7 := Lib.hid hys7'; clear own7 grow7 hd7 n7 s7 s7' e7 no7 bx7 bl7 hys7')
              | (refine step_appG (sz := 1) (bytes := 24) (by rfl) _ _ (by rfl) Try.underlying22 hi1 hz1 hz2 hz3 rfl (by omega) (by omega) (by rfl) (by simp [Value.oneCell']) (T5 + 1 + 1) A2 k cA ys7 (by rfl) (by exact hys7) _ (by rfl) (by rfl) (by omega) (by exact N7.out.sz) ?_; intro A3 c3 w8 own8 grow8 hd8; obtain ⟨y1, y2, y3⟩ := N7.out.loStep hys7 YS7.out (by rw [TM.out]; exact S7.out) (by rw [TM.out]; omega) BX7.out (by rw [TM.out]; exact own8) grow8 hd8; have h4 := box_cell y1 2 (.slice A2 k cA) rfl; have h5 := box_free y1 2; have Y2 := Lib.hid y2; have Y3 := Lib.hid y3; clear y1 y2 y3 own8 grow8 hd8)))
            all_goals (go_wp2_with fail; go_meet)
            all_goals exact ⟨f7, A3, c3, Y3, Y2, S7', NO7⟩
          case rest =>
            obtain ⟨f2, A3, cA3, HBox1, HNM1, HSl1, HFN1⟩ := hcut
            clear HR3 hP hz h0 h1 HSl HBox HNM HFN
            obtain ⟨gQ, rfl⟩ : ∃ gQ, Q = some ⟨gQ, 0, none⟩ := by
              obtain ⟨rP, _, hPe, _, _⟩ := HSl1.out.some (lst_len _ _) hm1
              exact ⟨rP.b, hPe⟩
            have hQ := HSl1.out.own HNM1.out.fam
            rw [lst_len] at hQ
            have hz := HNM1.out.sz
            have hbd := dnV_bd hb2 hs3
            have hdd : dnV b tt = dt := by rw [← HTT.out]; exact HDT.out
            have hqU := Lib.hid (fun W => oUp_any tt b W hb2 hb100 hs3 (by omega))
            have hqD := Lib.hid (fun W => oDown_any tt b W hb2 hb100 hs3 (by omega))
            rw [hdd] at hqD hbd
            have HTH1 := TH3
            have hub : 0 ≤ upV b tt ∧ upV b tt ≤ 490000 ∧ dt ≤ upV b tt := by omega
            generalize upV b tt = uv at *
            obtain ⟨hu1, hu2, hu4⟩ := hub
            have HR3 := Lib.hid (fun (P2 : Option Addr) (c2 : Nat) (w6 : World) (ho : Own w6 (T5 + 1 + 1) P2 (j + 1) c2 (lst j (t.hi k) ++ [uv - dt])) hg hd => HNM1.out.rowStep (P2 := P2) (c2 := c2) (w' := w6) (q := 0) (w1 := wc) (i := 5 + 2 * k) (i' := 5 + 2 * (k + 1)) (ys := []) (Q := none) (cQ := 0) (K := 6 + 2 * k) (v := uv - dt) (by omega) (by omega) (fun z hz => by omega) (fun z hz => by omega) (by omega) HSl1.out (.inl ⟨HFN1.out _ (by omega), rfl, rfl, rfl⟩) HFN1.out HTH1.out.symm HBox1.out (Below.refl _ _) (Nat.zero_le _) ho hg hd)
            have h0 := box_cell HBox1.out 3 (.slice E k cE) rfl
            have h1 : (wc.alloc (.cells #[.int .i64 (uv - dt)] 3)).cell? ⟨T5 + 1, 3, none⟩ = some (.slice E k cE) := box_cell (box_below HBox1.out (below_new _ _)) 3 _ rfl
            have W1 : IntKind.i64.wrap (uv - dt) = uv - dt := IntWalk.i64_in _ ⟨by omega, by omega⟩
            have r3 := box_cell (HT5r.out _ HNM1.out.old) 3 (.int .i64 tt) rfl
            have r3' : (wc.alloc (.cells #[.int .i64 (uv - dt)] 3)).cell? ⟨T5, 3, none⟩ = some (.int .i64 tt) := cell_new r3
            clear hbd hdd
            go_upto_region 30 with (fail)
            go_cut [] (fun wx => ∃ (f' : Nat → Option Rw) (E3 : Option Addr) (cE3 : Nat), Hid (wx.heap[T5 + 1]? = some (.cells #[.slice D k cD, .slice C j cC, .slice A3 (k + 1) cA3, .slice E3 (k + 1) cE3] 54 (0, 0))) ∧ Hid (NetM wd wx (T5 + 1) (T5 + 1 + 1) f' D C A3 E3 k cD j cC (k + 1) cA3 (k + 1) cE3 t) ∧ Hid (∀ i, 6 + 2 * k ≤ i → f' i = none))
            case first =>
              obtain ⟨i1, hi1, hz1, hz2, hz3⟩ := info_parts Try.infoIntS
              have HBoxd : Hid ((World.drew wc).heap[T5 + 1]? = _) := Lib.hid HBox1.out
              have HNMd := Lib.hid (HNM1.out.below (Below.refl _ _).drew)
              have hQd : Own (World.drew wc) _ _ _ _ _ := hQ.below (Below.refl _ _).drew
              have hzd : T5 + 1 + 1 ≤ (World.drew wc).heap.size := hz
              have h0d : (World.drew wc).cell? ⟨T5 + 1, 3, none⟩ = some (.slice E k cE) := h0
              have h1d : ((World.drew wc).alloc (.cells #[.int .i64 (uv - dt)] 3)).cell? ⟨T5 + 1, 3, none⟩ = some (.slice E k cE) := h1
              have r0d : (World.drew wc).cell? ⟨T5, 3, none⟩ = some (.int .i64 tt) := r3
              have r1d : ((World.drew wc).alloc (.cells #[.int .i64 (uv - dt)] 3)).cell? ⟨T5, 3, none⟩ = some (.int .i64 tt) := r3'
              have HR3d := Lib.hid (fun (P2 : Option Addr) (c2 : Nat) (w6 : World) (ho : Own w6 (T5 + 1 + 1) P2 (j + 1) c2 (lst j (t.hi k) ++ [uv - dt])) (hg : (World.drew wc).grownBy w6 (rowOf (some ⟨gQ, 0, none⟩))) (hd : rowOf P2 = rowOf (some ⟨gQ, 0, none⟩) ∨ rowOf P2 = some ((World.drew wc).heap.size + 1)) => HR3.out P2 c2 w6 ho ⟨hg.os, hg.tape, hg.output, hg.size, hg.block⟩ hd)
              clear HBox1 HNM1 hQ hz h0 h1 HR3 r3 r3'
              refine AnyE.region 17 (fun w' => w'.cell? ⟨T5 + 1, 3, none⟩ = some (.slice E k cE) ∧ w'.cell? ⟨T5, 3, none⟩ = some (.int .i64 tt)) (by kernel_rfl) (by exact ⟨h0d, r0d⟩) (fun hHeld => ?_)
              generalize World.drew wc = wq at *
              refine AnyE.take (i := 0) (d := 145) (v := ?_) rfl (by kernel_rfl) (by kernel_rfl) (by kernel_rfl) (by kernel_rfl) (by kernel_rfl) (fun _ _ _ h => h) (Or.inl ⟨by rfl, ?_⟩) (by assumption) ?_
              rotate_left
              · (intro w hSw; (try dsimp only at hSw); go_simp; try with_reducible rfl)
              simp only [Act.put, List.setIfInBounds_toArray, List.set_cons_zero, List.set_cons_succ]
              refine AnyE.take (i := 1) (d := 146) (v := ?_) rfl (by kernel_rfl) (by kernel_rfl) (by kernel_rfl) (by kernel_rfl) (by kernel_rfl) (fun _ _ _ h => h) (Or.inl ⟨by rfl, ?_⟩) (by assumption) ?_
              rotate_left
              · (intro w hSw; (try dsimp only at hSw); go_simp; try with_reducible rfl)
              simp only [Act.put, List.setIfInBounds_toArray, List.set_cons_zero, List.set_cons_succ]
              refine AnyE.take (i := 2) (d := 147) (v := ?_) rfl (by kernel_rfl) (by kernel_rfl) (by kernel_rfl) (by kernel_rfl) (by kernel_rfl) (fun _ _ _ h => h) (Or.inl ⟨by rfl, ?_⟩) (by assumption) ?_
              rotate_left
              · (intro w hSw; (try dsimp only at hSw); go_simp; try with_reducible rfl)
              simp only [Act.put, List.setIfInBounds_toArray, List.set_cons_zero, List.set_cons_succ]
              refine AnyE.take (i := 3) (d := 148) (v := ?_) rfl (by kernel_rfl) (by kernel_rfl) (by kernel_rfl) (by kernel_rfl) (by kernel_rfl) (fun _ _ _ h => h) (Or.inl ⟨by rfl, ?_⟩) (by assumption) ?_
              rotate_left
              · (intro w hSw; (try dsimp only at hSw); go_simp; try with_reducible rfl)
              simp only [Act.put, List.setIfInBounds_toArray, List.set_cons_zero, List.set_cons_succ]
              refine AnyE.take (i := 4) (d := 149) (v := ?_) rfl (by kernel_rfl) (by kernel_rfl) (by kernel_rfl) (by kernel_rfl) (by kernel_rfl) (fun _ _ _ h => h) (Or.inl ⟨by rfl, ?_⟩) (by assumption) ?_
              rotate_left
              · (intro w hSw; (try dsimp only at hSw); go_simp; try with_reducible rfl)
              simp only [Act.put, List.setIfInBounds_toArray, List.set_cons_zero, List.set_cons_succ]
              refine AnyE.take (i := 5) (d := 150) (v := ?_) rfl (by kernel_rfl) (by kernel_rfl) (by kernel_rfl) (by kernel_rfl) (by kernel_rfl) (fun _ _ _ h => h) (Or.inl ⟨by rfl, ?_⟩) (by assumption) ?_
              rotate_left
              · (intro w hSw; (try dsimp only at hSw); go_simp; try with_reducible rfl)
              simp only [Act.put, List.setIfInBounds_toArray, List.set_cons_zero, List.set_cons_succ]
              refine AnyE.take (i := 7) (d := 152) (v := ?_) rfl (by kernel_rfl) (by kernel_rfl) (by kernel_rfl) (by kernel_rfl) (by kernel_rfl) (fun _ _ _ h => h) (Or.inl ⟨by rfl, ?_⟩) (by assumption) ?_
              rotate_left
              · (intro w hSw; (try dsimp only at hSw); go_simp; try with_reducible rfl)
              simp only [Act.put, List.setIfInBounds_toArray, List.set_cons_zero, List.set_cons_succ]
              refine AnyE.take (i := 8) (d := 153) (v := ?_) rfl (by kernel_rfl) (by kernel_rfl) (by kernel_rfl) (by kernel_rfl) (by kernel_rfl) (fun _ _ _ h => h) (Or.inl ⟨by rfl, ?_⟩) (by assumption) ?_
              rotate_left
              · (intro w hSw; (try dsimp only at hSw); go_simp; try with_reducible rfl)
              simp only [Act.put, List.setIfInBounds_toArray, List.set_cons_zero, List.set_cons_succ]
              refine AnyE.take (i := 9) (d := 154) (v := ?_) rfl (by kernel_rfl) (by kernel_rfl) (by kernel_rfl) (by kernel_rfl) (by kernel_rfl) (fun _ _ _ h => h) (Or.inl ⟨by rfl, ?_⟩) (by assumption) ?_
              rotate_left
              · (intro w hSw; (try dsimp only at hSw); go_simp; try with_reducible rfl)
              simp only [Act.put, List.setIfInBounds_toArray, List.set_cons_zero, List.set_cons_succ]
              refine AnyE.step (i := 6) (by kernel_rfl) (by rfl) rfl (fun K hK => ?_)
              go_simp
              go_at_call 65
              (with_reducible refine (hqU.out _).mono ?_)
              rintro e w6 ⟨rfl, rfl⟩
              go_wp2_with fail
              refine hK.out _ _ ?_ (fun hHeld => ?_)
              · exact ⟨h0d, r0d⟩
              clear hK K
              try simp only [Act.put, List.setIfInBounds_toArray, List.set_cons_zero, List.set_cons_succ]
              refine AnyE.step (i := 10) (by kernel_rfl) (by rfl) rfl (fun K hK => ?_)
              go_simp
              go_at_call 64
              (with_reducible refine (hqD.out _).mono ?_)
              rintro e w6 ⟨rfl, rfl⟩
              go_wp2_with fail
              refine hK.out _ _ ?_ (fun hHeld => ?_)
              · exact ⟨h0d, r0d⟩
              clear hK K
              try simp only [Act.put, List.setIfInBounds_toArray, List.set_cons_zero, List.set_cons_succ]
              refine AnyE.take (i := 11) (d := 156) (v := ?_) rfl (by kernel_rfl) (by kernel_rfl) (by kernel_rfl) (by kernel_rfl) (by kernel_rfl) (fun _ _ _ h => h) (Or.inl ⟨by rfl, ?_⟩) (by assumption) ?_
              rotate_left
              · (intro w hSw; (try dsimp only at hSw); go_simp; try with_reducible rfl)
              simp only [Act.put, List.setIfInBounds_toArray, List.set_cons_zero, List.set_cons_succ]
              refine AnyE.step (i := 12) (by kernel_rfl) (by rfl) rfl (fun K hK => ?_)
              go_simp
              refine hK.out _ _ ?_ (fun hHeld => ?_)
              · exact ⟨h1d, r1d⟩
              clear hK K
              try simp only [Act.put, List.setIfInBounds_toArray, List.set_cons_zero, List.set_cons_succ]
              refine AnyE.step (i := 13) (by kernel_rfl) (by rfl) rfl (fun K hK => ?_)
              refine step_app1m (by rfl) _ _ (by rfl) (T5 + 1 + 1) (some ⟨gQ, 0, none⟩) j cQ (lst j (t.hi k)) (by rfl) (by exact hQd) _ (by rfl) (by rfl) (by omega) (by exact hzd) ?_
              intro P2 c2 w7 own7 grow7 hd7
              obtain ⟨b7, f7, rfl, n7, s7, s7', e7, no7, bx7, bl7⟩ := HR3d.out P2 c2 w7 own7 grow7 hd7
              have h2 := box_cell bx7 3 (.slice E k cE) rfl
              have h3 : (w7.alloc (.cells #[.slice (some ⟨b7, 0, none⟩) (j + 1) c2] 24)).cell? ⟨T5 + 1, 3, none⟩ = some (.slice E k cE) := box_cell (box_below bx7 (below_new _ _)) 3 _ rfl
              have r2 := box_cell (HT5r.out _ n7.old) 3 (.int .i64 tt) rfl
              have r4 : (w7.alloc (.cells #[.slice (some ⟨b7, 0, none⟩) (j + 1) c2] 24)).cell? ⟨T5, 3, none⟩ = some (.int .i64 tt) := cell_new r2
              obtain ⟨ys7, hys7, hys7'⟩ := n7.e
              have N7 := Lib.hid n7
              have S7 := Lib.hid s7
              have NO7 := Lib.hid no7
              have BX7 := Lib.hid bx7
              have YS7 := Lib.hid hys7'
              clear own7 grow7 hd7 n7 s7 s7' e7 no7 bx7 bl7 hys7'
              refine hK.out _ _ ?_ (fun hHeld => ?_)
              · exact ⟨h2, r2⟩
              clear hK K
              try simp only [Act.put, List.setIfInBounds_toArray]
              refine AnyE.step (i := 14) (by kernel_rfl) (by rfl) rfl (fun K hK => ?_)
              go_simp
              refine hK.out _ _ ?_ (fun hHeld => ?_)
              · exact ⟨h3, r4⟩
              clear hK K
              try simp only [Act.put, List.setIfInBounds_toArray, List.set_cons_zero, List.set_cons_succ]
              refine AnyE.step (i := 15) (by kernel_rfl) (by rfl) rfl (fun K hK => ?_)
              refine step_appG (sz := 1) (bytes := 24) (by rfl) _ _ (by rfl) Try.underlying22 hi1 hz1 hz2 hz3 rfl (by omega) (by omega) (by rfl) (by simp [Value.oneCell']) (T5 + 1 + 1) E k cE ys7 (by rfl) (by exact hys7) _ (by rfl) (by rfl) (by omega) (by exact N7.out.sz) ?_
              intro E3 c3 w8 own8 grow8 hd8
              obtain ⟨y1, y2, y3⟩ := N7.out.hiStep hys7 YS7.out (by rw [TM.out]; exact S7.out) (by rw [TM.out]; omega) BX7.out (by rw [TM.out]; exact own8) grow8 hd8
              have h4 := box_cell y1 3 (.slice E k cE) rfl
              have h5 := box_free y1 3
              have r5 := box_cell ((HT5r.out _ (N7.out.old.grown grow8 (by have := N7.out.sz; omega) (fun z hz => by have := (row_ge hys7 z hz).1; omega)))) 3 (.int .i64 tt) rfl
              have Y2 := Lib.hid y2
              have Y3 := Lib.hid y3
              clear y1 y2 y3 own8 grow8 hd8
              refine hK.out _ _ ?_ (fun hHeld => ?_)
              · exact ⟨h4, r5⟩
              clear hK K
              try simp only [Act.put, List.setIfInBounds_toArray]
              refine AnyE.take (i := 16) (d := 161) (v := ?_) rfl (by kernel_rfl) (by kernel_rfl) (by kernel_rfl) (by kernel_rfl) (by kernel_rfl) (fun _ _ _ h => h) (Or.inl ⟨by rfl, ?_⟩) (by assumption) ?_
              rotate_left
              · (intro w hSw; (try dsimp only at hSw); go_simp; try with_reducible rfl)
              simp only [Act.put]
              refine AnyE.last (i := 17) (by kernel_rfl) rfl rfl (by kernel_rfl) (fun K hK => ?_)
              go_simp
              refine hK.out _ _ ?_
              clear hK K
              go_wp2_with fail
              go_meet
              exact ⟨f7, E3, c3, Y3, Y2, NO7⟩
            case rest =>
              obtain ⟨f3, E3, cE3, HBox2, HNM2, HFN2⟩ := hcut
              obtain ⟨wu, rfl⟩ : ∃ wu : World, wu = wc := ⟨_, rfl⟩
              clear HSl1 W1 hqU hqD HTH1
              have hD := HNM2.out.d.own HNM2.out.fam
              rw [lst_len] at hD
              have hz := HNM2.out.sz
              have h0 := box_cell HBox2.out 0 (.slice D k cD) rfl
              have HR4 := Lib.hid (fun (D2 : Option Addr) (c2 : Nat) (w6 : World) (ho : Own w6 (T5 + 1 + 1) D2 (k + 1) c2 (lst k t.R ++ [rk])) hg hd => HNM2.out.rowsStep (D2 := D2) (c2 := c2) (w' := w6) (v := rk) (K := 6 + 2 * k) (by omega) HFN2.out HCL.out HBox2.out ho hg hd)
              go_upto_region 32 with (at_builtin; refine wp_app1 rfl _ _ rfl (T5 + 1 + 1) D k cD _ rfl hD _ rfl (by simp) (by omega) hz ?_; intro D3 c3 w6 ho6 hg6 hd6; obtain ⟨f6, ⟨bx6, n6, bx6'⟩, e6, no6⟩ := HR4.out D3 c3 w6 ho6 hg6 hd6; have q0 := box_cell bx6 0 (.slice D k cD) rfl; have q1 := box_free bx6 0; have N6 := Lib.hid n6; have NO6 := Lib.hid no6; have BX6 := Lib.hid bx6'; clear ho6 hg6 hd6 bx6 n6 bx6' e6 no6)
              clear q0 q1 h0 hD hz HR4 HNM2 HBox2 HFN2
              generalize w6.setCell ⟨T5 + 1, 0, none⟩ (.slice D3 (k + 1) c3) = w7 at *
              have hC := N6.out.c.own N6.out.fam
              rw [lst_len] at hC
              have hz := N6.out.sz
              have h0 := box_cell BX6.out 1 (.slice C j cC) rfl
              have HR4 := Lib.hid (fun (D2 : Option Addr) (c2 : Nat) (w6 : World) (ho : Own w6 (T5 + 1 + 1) D2 (j + 1) c2 (lst j t.C ++ [tcm])) hg hd => N6.out.colsStep (C2 := D2) (c2 := c2) (w' := w6) (v := tcm) (K := 6 + 2 * k) (by omega) NO6.out HTCN.out BX6.out ho hg hd)
              go_upto_region 33 with (at_builtin; refine wp_app1 rfl _ _ rfl (T5 + 1 + 1) C j cC _ rfl hC _ rfl (by simp) (by omega) hz ?_; intro C3 c4 w8 ho6 hg6 hd6; obtain ⟨f8, ⟨bx6, n6, bx6'⟩, e6, no6⟩ := HR4.out C3 c4 w8 ho6 hg6 hd6; have q0 := box_cell bx6 1 (.slice C j cC) rfl; have q1 := box_free bx6 1; have N8 := Lib.hid n6; have BX8 := Lib.hid bx6'; clear ho6 hg6 hd6 bx6 n6 bx6' e6 no6)
              clear q0 q1 h0 hC hz HR4 N6 BX6 NO6
              generalize w8.setCell ⟨T5 + 1, 1, none⟩ (.slice C3 (j + 1) c4) = w9 at *
              -- the result
              have hold : Below w.heap.size w w9 := (B0.out.trans (HB2.out.mono B0.out.size)).trans ((HBd.out.trans (N8.out.old.mono (by omega))).mono (by rw [HT4.out]; omega))
              have hx4 : w9.heap[T4]? = _ := ((HBd.out.trans (N8.out.old.mono (by omega))).block T4 (by omega)).trans ((HB2.out.block T4 (by rw [HZ1.out]; omega)).trans X0.out)
              have e0 := box_cell BX8.out 0 (.slice D3 (k + 1) c3) rfl
              have e1 := box_cell BX8.out 1 (.slice C3 (j + 1) c4) rfl
              have e2 := box_cell BX8.out 2 (.slice A3 (k + 1) cA3) rfl
              have e3 := box_cell BX8.out 3 (.slice E3 (k + 1) cE3) rfl
              have z0 := box_cell hx4 0 (.slice none 0 0) rfl
              have z1 := box_cell hx4 1 (.slice none 0 0) rfl
              have z2 := box_cell hx4 2 (.slice none 0 0) rfl
              have z3 := box_cell hx4 3 (.slice none 0 0) rfl
              have y0 := box_free hx4 0
              have y1 := box_free hx4 1
              have y2 := box_free hx4 2
              have y3 := box_free hx4 3
              have hcF : Chg T4 (T4 + 1) w9 ((((w9.setCell ⟨T4, 0, none⟩ (.slice D3 (k + 1) c3)).setCell ⟨T4, 1, none⟩ (.slice C3 (j + 1) c4)).setCell ⟨T4, 2, none⟩ (.slice A3 (k + 1) cA3)).setCell ⟨T4, 3, none⟩ (.slice E3 (k + 1) cE3)) := ((((Chg.refl _ _ w9).set (Nat.le_refl _) (by omega)).set (Nat.le_refl _) (by omega)).set (Nat.le_refl _) (by omega)).set (Nat.le_refl _) (by omega)
              have hN9 := N8.out.chgLow hcF (by omega)
              have HFin := Lib.hid (And.intro hN9 (hcF.below hold (by rw [HT4.out]; exact Nat.le_refl _) hold.size))
              have v0 := box_cell (box_set (box_set (box_set (box_set hx4 0 (.slice D3 (k + 1) c3)) 1 (.slice C3 (j + 1) c4)) 2 (.slice A3 (k + 1) cA3)) 3 (.slice E3 (k + 1) cE3)) 0 (.slice D3 (k + 1) c3) rfl
              have v1 := box_cell (box_set (box_set (box_set (box_set hx4 0 (.slice D3 (k + 1) c3)) 1 (.slice C3 (j + 1) c4)) 2 (.slice A3 (k + 1) cA3)) 3 (.slice E3 (k + 1) cE3)) 1 (.slice C3 (j + 1) c4) rfl
              have v2 := box_cell (box_set (box_set (box_set (box_set hx4 0 (.slice D3 (k + 1) c3)) 1 (.slice C3 (j + 1) c4)) 2 (.slice A3 (k + 1) cA3)) 3 (.slice E3 (k + 1) cE3)) 2 (.slice A3 (k + 1) cA3) rfl
              have v3 := box_cell (box_set (box_set (box_set (box_set hx4 0 (.slice D3 (k + 1) c3)) 1 (.slice C3 (j + 1) c4)) 2 (.slice A3 (k + 1) cA3)) 3 (.slice E3 (k + 1) cE3)) 3 (.slice E3 (k + 1) cE3) rfl
              clear hcF hN9 hold hx4 BX8 N8
              go_wp2
              refine bodyPost_ret (v := .agg #[.slice D3 (k + 1) c3, .slice C3 (j + 1) c4, .slice A3 (k + 1) cA3, .slice E3 (k + 1) cE3]) (by simp [results, Try.results28, go_sem, v0, v1, v2, v3]) rfl ⟨D3, C3, A3, E3, c3, c4, cA3, cE3, T5 + 1 + 1, _, T5 + 1, f8, rfl, by rw [HT4.out]; omega, by rw [TN.out]; exact HFin.out.1, HFin.out.2⟩
end Go.Proofs.Ytcjmapdeopffcaa
