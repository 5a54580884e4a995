/- The walk of the law FnNoise, printed by gdl.py. -/
import Derived.Test.YtfkdmddfadkjoaaLaw
import Derived.Test.YtfkdmddfadkjoaaKAddGeo
import Derived.Test.YtfkdmddfadkjoaaKAddGauss
import Derived.Test.YtfkdmddfadkjoaaGeoSample
namespace Go.Proofs.Ytfkdmddfadkjoaa
open Go.RowKit

theorem own_cap {w : World} {B n c : Nat} {A : Option Addr} {xs : List Int} (h : Own w B A n c xs) (hn : 0 < n) : n ≤ c := by
  rcases h.2 with ⟨_, h0⟩ | ⟨g, cap, cur, hv, _, _, hc, _⟩
  · omega
  · simp only [Value.slice.injEq, true_and] at hv
    omega
theorem ints_first {w : World} {A : Option Addr} {n : Nat} {xs : List Int} (h : Ints w A n xs) (hn : 0 < n) : Ints w A 1 [xs[0]?.getD 0] := by
  obtain ⟨ad, e, hc⟩ := h.2 hn
  refine ⟨rfl, fun _ => ⟨ad, e, fun j hj => ?_⟩⟩
  obtain rfl : j = 0 := by omega
  exact hc 0 hn
/-- Noise of a longer list begins alike. -/
theorem noiF_acc {f : Int → Option (Int × Int)} {xs acc l : List Int} {a : Int} (h : noiF f xs acc a = some l) : ∃ zs, l = acc ++ zs := by
  induction xs generalizing acc a with
  | nil => rw [noiF_end] at h; cases h; exact ⟨[], by simp⟩
  | cons x xs ih =>
    cases hf : f a with
    | none => rw [noiF_none hf] at h; cases h
    | some r =>
      obtain ⟨v, b⟩ := r
      rw [noiF_some hf] at h
      obtain ⟨zs, rfl⟩ := ih h
      exact ⟨(x + v) :: zs, by simp⟩
theorem addGeo_first {xs l : List Int} {p q s : Int} (h : addGeoR xs p q s = some l) (hn : 1 < xs.length) : ∃ y, addGeoR [xs[0]?.getD 0] p q s = some [y] ∧ l[0]?.getD 0 = y := by
  by_cases hc : numB xs 100 = true ∧ ratioB p q = true ∧ inR s 0 4611686016279904236 = true
  · obtain ⟨h1, h2, h3⟩ := hc
    rw [addGeoR_4 h1 h2 h3] at h
    obtain ⟨x, xs, rfl⟩ : ∃ x ys, xs = x :: ys := by
      cases xs with
      | nil => simp at hn
      | cons x ys => exact ⟨x, ys, rfl⟩
    have hn1 : numB [x] 100 = true := by
      have := numB_of h1
      refine numB_3 (by simp) ?_
      have h9 := this.2
      simp only [allN, allR, List.all_cons, List.all_nil, Bool.and_true, Bool.and_eq_true] at h9 ⊢
      exact h9.1
    cases hf : noiF (fun a => geoM s p q a) (x :: xs) [] 0 with
    | none => rw [noiM_1 hf] at h; cases h
    | some l2 =>
      cases hb : allN l2
      · rw [noiM_2 hf hb] at h; cases h
      · rw [noiM_3 hf hb] at h
        cases h
        cases hg : geoM s p q 0 with
        | none => rw [noiF_none hg] at hf; cases hf
        | some r =>
          obtain ⟨v, b⟩ := r
          rw [noiF_some hg] at hf
          obtain ⟨zs, rfl⟩ := noiF_acc hf
          have hf1 : noiF (fun a => geoM s p q a) [x] [] 0 = some ([] ++ [x + v]) := by rw [noiF_some hg]; rfl
          have hb1 : allN ([] ++ [x + v]) = true := by
            simp only [allN, allR, List.nil_append, List.cons_append, List.all_cons, List.all_nil, Bool.and_true, Bool.and_eq_true] at hb ⊢
            exact hb.1
          refine ⟨x + v, ?_, by simp⟩
          show addGeoR [x] p q s = _
          rw [addGeoR_4 hn1 h2 h3, noiM_3 hf1 hb1]
          rfl
  · exfalso
    unfold addGeoR at h
    rw [if_neg hc] at h
    cases h

set_option maxRecDepth 100000 in
set_option maxHeartbeats 4000000 in
theorem walk_FnNoise (a0 : Option Addr) (n0 c0 : Nat) (z0 : List Int) (a1 : Option Addr) (n1 c1 : Nat) (z1 : List Int) (w : World) (r0 : Bytes w a0 n0 z0) (m0 : n0 ≤ maxLen) (f0 : ∀ x ∈ z0, (Lit.int .u8 x).wf = true) (r1 : Bytes w a1 n1 z1) (_m1 : n1 ≤ maxLen) (f1 : ∀ x ∈ z1, (Lit.int .u8 x).wf = true) :
    Calls Try.prog 9 #[.slice a0 n0 c0, .slice a1 n1 c1] w fun e w' => e = .returned (.bool true) ∧ Below w.heap.size w w' := by
  have hb0 := Lib.hid (byt_of r0 f0)
  have hb1 := Lib.hid (byt_of r1 f1)
  have B0 := Below.refl w.heap.size w
  clear r0 f0 r1 f1
  go_enter Try.func9, Try.ntmps9
  go_wp2_with fail
  refine (big_any _ _ _ _ _ _ _ m0).mono ?_
  rintro e w' ⟨rfl, rfl⟩
  cases hbig : bigB n0 n1
  case true =>
    clear hbig
    go_wp2
    go_ret
    exact ⟨rfl, B0⟩
  have hbg := bigB_of hbig
  have hn0 := hbg.1
  have hn1 := hbg.2
  clear hbig hbg m0
  go_wp2_with fail
  refine (drawAddGeo_any _ _ _ _ (hb0.out.below B0) hn0).mono ?_
  rintro e w1 ⟨l, m, cl, xs, p, q, sd, rfl, hm, ol, b1⟩
  have B1 := B0.trans (b1.mono B0.size)
  have S1 := b1.size
  clear b1 B0
  go_wp2_with fail
  have b2 := below_new w1 (.cells #[.int .i64 p, .int .i64 q] 28)
  have y2 := box_new w1 #[.int .i64 p, .int .i64 q] 28
  have q2 : (w1.alloc (.cells #[.int .i64 p, .int .i64 q] 28)).heap.size = w1.heap.size + 1 := by simp
  obtain ⟨gf, hgf⟩ : ∃ g, w1.heap.size = g := ⟨_, rfl⟩
  generalize w1.alloc (.cells #[.int .i64 p, .int .i64 q] 28) = w2 at *
  have B2 := B1.trans (b2.mono B1.size)
  replace ol := ol.below b2
  have S2 := b2.size
  clear b2 B1
  rw [hgf] at y2 q2 ⊢
  have xf := y2
  try rw [← q2]
  clear y2 q2 hgf
  refine (implAddGeo_law _ _ _ _ _ _ _ _ ol.ints ol.small).mono ?_
  rintro e w3 ⟨Ax, cx, rfl, ox, b3⟩
  have B3 := B2.trans (b3.mono B2.size)
  replace xf := box_below xf b3
  replace ol := ol.below b3
  have S3 := b3.size
  clear b3 B2
  have lf := lt_of_block xf
  have cf0 := box_cell xf 0 _ rfl
  have cf1 := box_cell xf 1 _ rfl
  go_wp2_with fail
  clear lf cf0 cf1
  refine (specAddGeo_law _ _ _ _ _ _ _ _ ol.ints ol.small).mono ?_
  rintro e w4 ⟨Ay, cy, rfl, oy, b4⟩
  have B4 := B3.trans (b4.mono B3.size)
  replace xf := box_below xf b4
  replace ol := ol.below b4
  replace ox := ox.below b4
  have S4 := b4.size
  clear b4 B3
  go_wp2_with fail
  refine (sameInts_any _ _ _ _ _ _ _ ox.ints oy.ints ox.small).mono ?_
  rintro e w5 ⟨rfl, b5⟩
  have B5 := B4.trans (b5.mono B4.size)
  replace xf := box_below xf b5
  replace ol := ol.below b5
  replace ox := ox.below b5
  replace oy := oy.below b5
  have S5 := b5.size
  clear b5 B4
  cases hR : (addGeoR xs p q sd) with
  | none =>
    rw [hR] at ox oy
    simp only [lB, lV, Option.isSome_none, Option.getD_none] at ox oy ⊢
    clear ol ox oy
    clear xf
    go_wp2_with fail
    refine (drawGeoSample_any _ _ _ _ (hb1.out.below B5) hn1).mono ?_
    rintro e w6 ⟨s1, s2, u1, u2, rfl, b6⟩
    have B6 := B5.trans (b6.mono B5.size)
    have S6 := b6.size
    clear b6 B5
    go_wp2_with fail
    have b7 := below_new w6 (.cells #[.int .i64 s1, .int .i64 s2] 38)
    have y7 := box_new w6 #[.int .i64 s1, .int .i64 s2] 38
    have q7 : (w6.alloc (.cells #[.int .i64 s1, .int .i64 s2] 38)).heap.size = w6.heap.size + 1 := by simp
    obtain ⟨gs, hgs⟩ : ∃ g, w6.heap.size = g := ⟨_, rfl⟩
    generalize w6.alloc (.cells #[.int .i64 s1, .int .i64 s2] 38) = w7 at *
    have B7 := B6.trans (b7.mono B6.size)
    have S7 := b7.size
    clear b7 B6
    rw [hgs] at y7 q7 ⊢
    have xs := y7
    try rw [← q7]
    clear y7 q7 hgs
    have b8 := below_new w7 (.cells #[.int .i64 u1, .int .i64 u2] 28)
    have y8 := box_new w7 #[.int .i64 u1, .int .i64 u2] 28
    have q8 : (w7.alloc (.cells #[.int .i64 u1, .int .i64 u2] 28)).heap.size = w7.heap.size + 1 := by simp
    obtain ⟨gu, hgu⟩ : ∃ g, w7.heap.size = g := ⟨_, rfl⟩
    generalize w7.alloc (.cells #[.int .i64 u1, .int .i64 u2] 28) = w8 at *
    have B8 := B7.trans (b8.mono B7.size)
    replace xs := box_below xs b8
    have S8 := b8.size
    clear b8 B7
    rw [hgu] at y8 q8 ⊢
    have xu := y8
    try rw [← q8]
    clear y8 q8 hgu
    refine (implGeoSample_law _ _ _ _ _).mono ?_
    rintro e w9 ⟨rfl, b9⟩
    have B9 := B8.trans (b9.mono B8.size)
    replace xs := box_below xs b9
    replace xu := box_below xu b9
    have S9 := b9.size
    clear b9 B8
    have ls := lt_of_block xs
    have cs0 := box_cell xs 0 _ rfl
    have cs1 := box_cell xs 1 _ rfl
    have lu := lt_of_block xu
    have cu0 := box_cell xu 0 _ rfl
    have cu1 := box_cell xu 1 _ rfl
    go_wp2_with fail
    clear ls cs0 cs1 lu cu0 cu1
    have b10 := below_new w9 (.cells #[.int .i64 (oS s1 (geoR s1 s2 u1 u2)), .int .i64 (oA (geoR s1 s2 u1 u2))] 38)
    have y10 := box_new w9 #[.int .i64 (oS s1 (geoR s1 s2 u1 u2)), .int .i64 (oA (geoR s1 s2 u1 u2))] 38
    have q10 : (w9.alloc (.cells #[.int .i64 (oS s1 (geoR s1 s2 u1 u2)), .int .i64 (oA (geoR s1 s2 u1 u2))] 38)).heap.size = w9.heap.size + 1 := by simp
    obtain ⟨ga, hga⟩ : ∃ g, w9.heap.size = g := ⟨_, rfl⟩
    generalize w9.alloc (.cells #[.int .i64 (oS s1 (geoR s1 s2 u1 u2)), .int .i64 (oA (geoR s1 s2 u1 u2))] 38) = w10 at *
    have B10 := B9.trans (b10.mono B9.size)
    replace xs := box_below xs b10
    replace xu := box_below xu b10
    have S10 := b10.size
    clear b10 B9
    rw [hga] at y10 q10 ⊢
    have xa := y10
    try rw [← q10]
    clear y10 q10 hga
    refine (specGeoSample_law _ _ _ _ _).mono ?_
    rintro e w11 ⟨rfl, b11⟩
    have B11 := B10.trans (b11.mono B10.size)
    replace xs := box_below xs b11
    replace xu := box_below xu b11
    replace xa := box_below xa b11
    have S11 := b11.size
    clear b11 B10
    have hmark := trivial
    have la := lt_of_block xa
    have ca0 := box_cell xa 0 _ rfl
    have ca1 := box_cell xa 1 _ rfl
    go_wp2_with fail
    clear la ca0 ca1
    have b12 := below_new w11 (.cells #[.int .i64 (oS s1 (geoR s1 s2 u1 u2)), .int .i64 (oA (geoR s1 s2 u1 u2))] 38)
    have y12 := box_new w11 #[.int .i64 (oS s1 (geoR s1 s2 u1 u2)), .int .i64 (oA (geoR s1 s2 u1 u2))] 38
    have q12 : (w11.alloc (.cells #[.int .i64 (oS s1 (geoR s1 s2 u1 u2)), .int .i64 (oA (geoR s1 s2 u1 u2))] 38)).heap.size = w11.heap.size + 1 := by simp
    obtain ⟨gb, hgb⟩ : ∃ g, w11.heap.size = g := ⟨_, rfl⟩
    generalize w11.alloc (.cells #[.int .i64 (oS s1 (geoR s1 s2 u1 u2)), .int .i64 (oA (geoR s1 s2 u1 u2))] 38) = w12 at *
    have B12 := B11.trans (b12.mono B11.size)
    replace xs := box_below xs b12
    replace xu := box_below xu b12
    replace xa := box_below xa b12
    have S12 := b12.size
    clear b12 B11
    rw [hgb] at y12 q12 ⊢
    have xb := y12
    try rw [← q12]
    clear y12 q12 hgb
    refine (drawAddGauss_any _ _ _ _ (hb1.out.below B12) hn1).mono ?_
    rintro e w13 ⟨l3, m3, c3, x3, p3, q3, sd3, rfl, hm3, o3, b13⟩
    have B13 := B12.trans (b13.mono B12.size)
    replace xs := box_below xs b13
    replace xu := box_below xu b13
    replace xa := box_below xa b13
    replace xb := box_below xb b13
    have S13 := b13.size
    clear b13 B12
    go_wp2_with fail
    have b14 := below_new w13 (.cells #[.int .i64 p3, .int .i64 q3] 28)
    have y14 := box_new w13 #[.int .i64 p3, .int .i64 q3] 28
    have q14 : (w13.alloc (.cells #[.int .i64 p3, .int .i64 q3] 28)).heap.size = w13.heap.size + 1 := by simp
    obtain ⟨gv, hgv⟩ : ∃ g, w13.heap.size = g := ⟨_, rfl⟩
    generalize w13.alloc (.cells #[.int .i64 p3, .int .i64 q3] 28) = w14 at *
    have B14 := B13.trans (b14.mono B13.size)
    replace xs := box_below xs b14
    replace xu := box_below xu b14
    replace xa := box_below xa b14
    replace xb := box_below xb b14
    replace o3 := o3.below b14
    have S14 := b14.size
    clear b14 B13
    rw [hgv] at y14 q14 ⊢
    have xv := y14
    try rw [← q14]
    clear y14 q14 hgv
    refine (implAddGauss_law _ _ _ _ _ _ _ _ o3.ints o3.small).mono ?_
    rintro e w15 ⟨A4, c4, rfl, o4, b15⟩
    have B15 := B14.trans (b15.mono B14.size)
    replace xs := box_below xs b15
    replace xu := box_below xu b15
    replace xa := box_below xa b15
    replace xb := box_below xb b15
    replace xv := box_below xv b15
    replace o3 := o3.below b15
    have S15 := b15.size
    clear b15 B14
    have lv := lt_of_block xv
    have cv0 := box_cell xv 0 _ rfl
    have cv1 := box_cell xv 1 _ rfl
    go_wp2_with fail
    clear lv cv0 cv1
    refine (specAddGauss_law _ _ _ _ _ _ _ _ o3.ints o3.small).mono ?_
    rintro e w16 ⟨A5, c5, rfl, o5, b16⟩
    have B16 := B15.trans (b16.mono B15.size)
    replace xs := box_below xs b16
    replace xu := box_below xu b16
    replace xa := box_below xa b16
    replace xb := box_below xb b16
    replace xv := box_below xv b16
    replace o3 := o3.below b16
    replace o4 := o4.below b16
    have S16 := b16.size
    clear b16 B15
    go_wp2_with fail
    refine (sameInts_any _ _ _ _ _ _ _ o4.ints o5.ints o4.small).mono ?_
    rintro e w17 ⟨rfl, b17⟩
    have B17 := B16.trans (b17.mono B16.size)
    replace xs := box_below xs b17
    replace xu := box_below xu b17
    replace xa := box_below xa b17
    replace xb := box_below xb b17
    replace xv := box_below xv b17
    replace o3 := o3.below b17
    replace o4 := o4.below b17
    replace o5 := o5.below b17
    have S17 := b17.size
    clear b17 B16
    go_wp2
    go_ret
    exact ⟨rfl, B17⟩
  | some ys =>
    rw [hR] at ox oy
    simp only [lB, lV, Option.isSome_some, Option.getD_some] at ox oy ⊢
    have hlx : xs.length = m := ol.own.len
    by_cases hm1 : 1 < m
    · obtain ⟨y, hy1, hy2⟩ := addGeo_first hR (by omega)
      have hyl : ys.length = m := by
        have h9 := hR
        unfold addGeoR at h9
        split at h9
        · have := noiM_len h9
          omega
        · cases h9
      obtain ⟨gl, rfl, _⟩ := ol.own.head (by omega)
      obtain ⟨gy, rfl, _⟩ := oy.own.head (by omega)
      have hcl : m ≤ cl := own_cap ol.own (by omega)
      obtain ⟨_, hgy1, hgy2, hgy3, hcy, _⟩ := oy.own.at_ (k := 0) (by omega)
      simp only [Option.some.injEq, Addr.mk.injEq, and_true] at hgy1
      subst hgy1
      rw [hy2] at hcy
      have hI1 : Ints w5 (some ⟨gl, 0, none⟩) 1 [xs[0]?.getD 0] := ints_first ol.ints (by omega)
      have HC : Hid (∀ w9 : World, Ints w9 (some ⟨gl, 0, none⟩) 1 [xs[0]?.getD 0] → Calls Try.prog 14 #[.slice (some ⟨gl, 0, none⟩) 1 cl, .agg #[.int .i64 p, .int .i64 q], .int .i64 sd] w9 fun e w' => ∃ A c, e = .returned (.tuple #[.slice A 1 c, .bool true]) ∧ OwnI w' w9.heap.size w'.heap.size A 1 c [y] ∧ Below w9.heap.size w9 w') := Lib.hid fun w9 h9 => (implAddGeo_law _ _ _ _ _ _ _ w9 h9 (by omega)).mono (by rw [hy1]; exact fun _ _ h => h)
      have hm2 : (1 : Int) < (m : Int) := by omega
      have hm3 : (1 : Int) ≤ (cl : Int) := by omega
      have HR := Lib.hid hR
      have HY := Lib.hid hyl
      have HX := Lib.hid hlx
      have HY2 := Lib.hid hy2
      clear hR hyl hlx hy1 hy2 ox
      have lf := lt_of_block xf
      have cf0 := box_cell xf 0 _ rfl
      have cf1 := box_cell xf 1 _ rfl
      go_wp2
      have hI2 : Ints w5.drew (some ⟨gl, 0, none⟩) 1 [xs[0]?.getD 0] := hI1
      go_region_held3 (fun w' => w'.cell? ⟨gf, 0, none⟩ = some (.int .i64 p) ∧ w'.cell? ⟨gf, 1, none⟩ = some (.int .i64 q)) (first | exact ⟨k0, k1⟩ | go_keep) ((go_at_call 14; refine (HC.out _ hI2).mono ?_; rintro e w9 ⟨A9, c9, rfl, o9, b9⟩; have X9 := (b9.block _ (lt_of_block xf)).trans xf; have k0 := box_cell X9 0 _ rfl; have k1 := box_cell X9 1 _ rfl))
      clear lf cf0 cf1
      have b9' : Below w5.heap.size w5 w9 := (Below.refl w5.heap.size w5).drew.trans b9
      clear b9 k0 k1 X9 hI2
      have B18 := B5.trans (b9'.mono B5.size)
      replace xf := box_below xf b9'
      replace ol := ol.below b9'
      replace oy := oy.below b9'
      have S18 := b9'.size
      clear b9' B5
      obtain ⟨g9, rfl, _⟩ := o9.own.head (by omega)
      obtain ⟨_, h91, _, _, hc9, _⟩ := o9.own.at_ (k := 0) (by omega)
      simp only [Option.some.injEq, Addr.mk.injEq, and_true] at h91
      subst h91
      obtain ⟨_, hgy1, _, _, hcy9, _⟩ := oy.own.at_ (k := 0) (by rw [HY.out]; omega)
      simp only [Option.some.injEq, Addr.mk.injEq, and_true] at hgy1
      subst hgy1
      rw [HY2.out] at hcy9
      simp only [List.getElem?_cons_zero, Option.getD_some] at hc9
      have hb0y : (0 : Int) < (ys.length : Int) := by rw [HY.out]; omega
      have hb0n : 0 < ys.length := by rw [HY.out]; omega
      clear hcy hI1 HC
      go_wp2
      go_quiet (fail)
      have b10 : Below w9.heap.size w9 (w9.drewN nq) := below_drewN (Below.refl _ _) nq
      generalize w9.drewN nq = w10 at *
      clear hcy9 hc9 o9 HR HY HX HY2 hb0y hb0n hm2 hm3 hcl
      have B19 := B18.trans (b10.mono B18.size)
      replace xf := box_below xf b10
      replace ol := ol.below b10
      replace oy := oy.below b10
      have S19 := b10.size
      clear b10 B18
      clear ol oy
      clear xf
      go_wp2_with fail
      refine (drawGeoSample_any _ _ _ _ (hb1.out.below B19) hn1).mono ?_
      rintro e w20 ⟨s1, s2, u1, u2, rfl, b20⟩
      have B20 := B19.trans (b20.mono B19.size)
      have S20 := b20.size
      clear b20 B19
      go_wp2_with fail
      have b21 := below_new w20 (.cells #[.int .i64 s1, .int .i64 s2] 38)
      have y21 := box_new w20 #[.int .i64 s1, .int .i64 s2] 38
      have q21 : (w20.alloc (.cells #[.int .i64 s1, .int .i64 s2] 38)).heap.size = w20.heap.size + 1 := by simp
      obtain ⟨gs, hgs⟩ : ∃ g, w20.heap.size = g := ⟨_, rfl⟩
      generalize w20.alloc (.cells #[.int .i64 s1, .int .i64 s2] 38) = w21 at *
      have B21 := B20.trans (b21.mono B20.size)
      have S21 := b21.size
      clear b21 B20
      rw [hgs] at y21 q21 ⊢
      have xs := y21
      try rw [← q21]
      clear y21 q21 hgs
      have b22 := below_new w21 (.cells #[.int .i64 u1, .int .i64 u2] 28)
      have y22 := box_new w21 #[.int .i64 u1, .int .i64 u2] 28
      have q22 : (w21.alloc (.cells #[.int .i64 u1, .int .i64 u2] 28)).heap.size = w21.heap.size + 1 := by simp
      obtain ⟨gu, hgu⟩ : ∃ g, w21.heap.size = g := ⟨_, rfl⟩
      generalize w21.alloc (.cells #[.int .i64 u1, .int .i64 u2] 28) = w22 at *
      have B22 := B21.trans (b22.mono B21.size)
      replace xs := box_below xs b22
      have S22 := b22.size
      clear b22 B21
      rw [hgu] at y22 q22 ⊢
      have xu := y22
      try rw [← q22]
      clear y22 q22 hgu
      refine (implGeoSample_law _ _ _ _ _).mono ?_
      rintro e w23 ⟨rfl, b23⟩
      have B23 := B22.trans (b23.mono B22.size)
      replace xs := box_below xs b23
      replace xu := box_below xu b23
      have S23 := b23.size
      clear b23 B22
      have ls := lt_of_block xs
      have cs0 := box_cell xs 0 _ rfl
      have cs1 := box_cell xs 1 _ rfl
      have lu := lt_of_block xu
      have cu0 := box_cell xu 0 _ rfl
      have cu1 := box_cell xu 1 _ rfl
      go_wp2_with fail
      clear ls cs0 cs1 lu cu0 cu1
      have b24 := below_new w23 (.cells #[.int .i64 (oS s1 (geoR s1 s2 u1 u2)), .int .i64 (oA (geoR s1 s2 u1 u2))] 38)
      have y24 := box_new w23 #[.int .i64 (oS s1 (geoR s1 s2 u1 u2)), .int .i64 (oA (geoR s1 s2 u1 u2))] 38
      have q24 : (w23.alloc (.cells #[.int .i64 (oS s1 (geoR s1 s2 u1 u2)), .int .i64 (oA (geoR s1 s2 u1 u2))] 38)).heap.size = w23.heap.size + 1 := by simp
      obtain ⟨ga, hga⟩ : ∃ g, w23.heap.size = g := ⟨_, rfl⟩
      generalize w23.alloc (.cells #[.int .i64 (oS s1 (geoR s1 s2 u1 u2)), .int .i64 (oA (geoR s1 s2 u1 u2))] 38) = w24 at *
      have B24 := B23.trans (b24.mono B23.size)
      replace xs := box_below xs b24
      replace xu := box_below xu b24
      have S24 := b24.size
      clear b24 B23
      rw [hga] at y24 q24 ⊢
      have xa := y24
      try rw [← q24]
      clear y24 q24 hga
      refine (specGeoSample_law _ _ _ _ _).mono ?_
      rintro e w25 ⟨rfl, b25⟩
      have B25 := B24.trans (b25.mono B24.size)
      replace xs := box_below xs b25
      replace xu := box_below xu b25
      replace xa := box_below xa b25
      have S25 := b25.size
      clear b25 B24
      have hmark := trivial
      have la := lt_of_block xa
      have ca0 := box_cell xa 0 _ rfl
      have ca1 := box_cell xa 1 _ rfl
      go_wp2_with fail
      clear la ca0 ca1
      have b26 := below_new w25 (.cells #[.int .i64 (oS s1 (geoR s1 s2 u1 u2)), .int .i64 (oA (geoR s1 s2 u1 u2))] 38)
      have y26 := box_new w25 #[.int .i64 (oS s1 (geoR s1 s2 u1 u2)), .int .i64 (oA (geoR s1 s2 u1 u2))] 38
      have q26 : (w25.alloc (.cells #[.int .i64 (oS s1 (geoR s1 s2 u1 u2)), .int .i64 (oA (geoR s1 s2 u1 u2))] 38)).heap.size = w25.heap.size + 1 := by simp
      obtain ⟨gb, hgb⟩ : ∃ g, w25.heap.size = g := ⟨_, rfl⟩
      generalize w25.alloc (.cells #[.int .i64 (oS s1 (geoR s1 s2 u1 u2)), .int .i64 (oA (geoR s1 s2 u1 u2))] 38) = w26 at *
      have B26 := B25.trans (b26.mono B25.size)
      replace xs := box_below xs b26
      replace xu := box_below xu b26
      replace xa := box_below xa b26
      have S26 := b26.size
      clear b26 B25
      rw [hgb] at y26 q26 ⊢
      have xb := y26
      try rw [← q26]
      clear y26 q26 hgb
      refine (drawAddGauss_any _ _ _ _ (hb1.out.below B26) hn1).mono ?_
      rintro e w27 ⟨l3, m3, c3, x3, p3, q3, sd3, rfl, hm3, o3, b27⟩
      have B27 := B26.trans (b27.mono B26.size)
      replace xs := box_below xs b27
      replace xu := box_below xu b27
      replace xa := box_below xa b27
      replace xb := box_below xb b27
      have S27 := b27.size
      clear b27 B26
      go_wp2_with fail
      have b28 := below_new w27 (.cells #[.int .i64 p3, .int .i64 q3] 28)
      have y28 := box_new w27 #[.int .i64 p3, .int .i64 q3] 28
      have q28 : (w27.alloc (.cells #[.int .i64 p3, .int .i64 q3] 28)).heap.size = w27.heap.size + 1 := by simp
      obtain ⟨gv, hgv⟩ : ∃ g, w27.heap.size = g := ⟨_, rfl⟩
      generalize w27.alloc (.cells #[.int .i64 p3, .int .i64 q3] 28) = w28 at *
      have B28 := B27.trans (b28.mono B27.size)
      replace xs := box_below xs b28
      replace xu := box_below xu b28
      replace xa := box_below xa b28
      replace xb := box_below xb b28
      replace o3 := o3.below b28
      have S28 := b28.size
      clear b28 B27
      rw [hgv] at y28 q28 ⊢
      have xv := y28
      try rw [← q28]
      clear y28 q28 hgv
      refine (implAddGauss_law _ _ _ _ _ _ _ _ o3.ints o3.small).mono ?_
      rintro e w29 ⟨A4, c4, rfl, o4, b29⟩
      have B29 := B28.trans (b29.mono B28.size)
      replace xs := box_below xs b29
      replace xu := box_below xu b29
      replace xa := box_below xa b29
      replace xb := box_below xb b29
      replace xv := box_below xv b29
      replace o3 := o3.below b29
      have S29 := b29.size
      clear b29 B28
      have lv := lt_of_block xv
      have cv0 := box_cell xv 0 _ rfl
      have cv1 := box_cell xv 1 _ rfl
      go_wp2_with fail
      clear lv cv0 cv1
      refine (specAddGauss_law _ _ _ _ _ _ _ _ o3.ints o3.small).mono ?_
      rintro e w30 ⟨A5, c5, rfl, o5, b30⟩
      have B30 := B29.trans (b30.mono B29.size)
      replace xs := box_below xs b30
      replace xu := box_below xu b30
      replace xa := box_below xa b30
      replace xb := box_below xb b30
      replace xv := box_below xv b30
      replace o3 := o3.below b30
      replace o4 := o4.below b30
      have S30 := b30.size
      clear b30 B29
      go_wp2_with fail
      refine (sameInts_any _ _ _ _ _ _ _ o4.ints o5.ints o4.small).mono ?_
      rintro e w31 ⟨rfl, b31⟩
      have B31 := B30.trans (b31.mono B30.size)
      replace xs := box_below xs b31
      replace xu := box_below xu b31
      replace xa := box_below xa b31
      replace xb := box_below xb b31
      replace xv := box_below xv b31
      replace o3 := o3.below b31
      replace o4 := o4.below b31
      replace o5 := o5.below b31
      have S31 := b31.size
      clear b31 B30
      go_wp2
      go_ret
      exact ⟨rfl, B31⟩
    · have hm2 : ¬ (1 : Int) < (m : Int) := by omega
      clear hR hlx
      clear ol ox oy
      clear xf
      go_wp2_with fail
      refine (drawGeoSample_any _ _ _ _ (hb1.out.below B5) hn1).mono ?_
      rintro e w32 ⟨s1, s2, u1, u2, rfl, b32⟩
      have B32 := B5.trans (b32.mono B5.size)
      have S32 := b32.size
      clear b32 B5
      go_wp2_with fail
      have b33 := below_new w32 (.cells #[.int .i64 s1, .int .i64 s2] 38)
      have y33 := box_new w32 #[.int .i64 s1, .int .i64 s2] 38
      have q33 : (w32.alloc (.cells #[.int .i64 s1, .int .i64 s2] 38)).heap.size = w32.heap.size + 1 := by simp
      obtain ⟨gs, hgs⟩ : ∃ g, w32.heap.size = g := ⟨_, rfl⟩
      generalize w32.alloc (.cells #[.int .i64 s1, .int .i64 s2] 38) = w33 at *
      have B33 := B32.trans (b33.mono B32.size)
      have S33 := b33.size
      clear b33 B32
      rw [hgs] at y33 q33 ⊢
      have xs := y33
      try rw [← q33]
      clear y33 q33 hgs
      have b34 := below_new w33 (.cells #[.int .i64 u1, .int .i64 u2] 28)
      have y34 := box_new w33 #[.int .i64 u1, .int .i64 u2] 28
      have q34 : (w33.alloc (.cells #[.int .i64 u1, .int .i64 u2] 28)).heap.size = w33.heap.size + 1 := by simp
      obtain ⟨gu, hgu⟩ : ∃ g, w33.heap.size = g := ⟨_, rfl⟩
      generalize w33.alloc (.cells #[.int .i64 u1, .int .i64 u2] 28) = w34 at *
      have B34 := B33.trans (b34.mono B33.size)
      replace xs := box_below xs b34
      have S34 := b34.size
      clear b34 B33
      rw [hgu] at y34 q34 ⊢
      have xu := y34
      try rw [← q34]
      clear y34 q34 hgu
      refine (implGeoSample_law _ _ _ _ _).mono ?_
      rintro e w35 ⟨rfl, b35⟩
      have B35 := B34.trans (b35.mono B34.size)
      replace xs := box_below xs b35
      replace xu := box_below xu b35
      have S35 := b35.size
      clear b35 B34
      have ls := lt_of_block xs
      have cs0 := box_cell xs 0 _ rfl
      have cs1 := box_cell xs 1 _ rfl
      have lu := lt_of_block xu
      have cu0 := box_cell xu 0 _ rfl
      have cu1 := box_cell xu 1 _ rfl
      go_wp2_with fail
      clear ls cs0 cs1 lu cu0 cu1
      have b36 := below_new w35 (.cells #[.int .i64 (oS s1 (geoR s1 s2 u1 u2)), .int .i64 (oA (geoR s1 s2 u1 u2))] 38)
      have y36 := box_new w35 #[.int .i64 (oS s1 (geoR s1 s2 u1 u2)), .int .i64 (oA (geoR s1 s2 u1 u2))] 38
      have q36 : (w35.alloc (.cells #[.int .i64 (oS s1 (geoR s1 s2 u1 u2)), .int .i64 (oA (geoR s1 s2 u1 u2))] 38)).heap.size = w35.heap.size + 1 := by simp
      obtain ⟨ga, hga⟩ : ∃ g, w35.heap.size = g := ⟨_, rfl⟩
      generalize w35.alloc (.cells #[.int .i64 (oS s1 (geoR s1 s2 u1 u2)), .int .i64 (oA (geoR s1 s2 u1 u2))] 38) = w36 at *
      have B36 := B35.trans (b36.mono B35.size)
      replace xs := box_below xs b36
      replace xu := box_below xu b36
      have S36 := b36.size
      clear b36 B35
      rw [hga] at y36 q36 ⊢
      have xa := y36
      try rw [← q36]
      clear y36 q36 hga
      refine (specGeoSample_law _ _ _ _ _).mono ?_
      rintro e w37 ⟨rfl, b37⟩
      have B37 := B36.trans (b37.mono B36.size)
      replace xs := box_below xs b37
      replace xu := box_below xu b37
      replace xa := box_below xa b37
      have S37 := b37.size
      clear b37 B36
      have hmark := trivial
      have la := lt_of_block xa
      have ca0 := box_cell xa 0 _ rfl
      have ca1 := box_cell xa 1 _ rfl
      go_wp2_with fail
      clear la ca0 ca1
      have b38 := below_new w37 (.cells #[.int .i64 (oS s1 (geoR s1 s2 u1 u2)), .int .i64 (oA (geoR s1 s2 u1 u2))] 38)
      have y38 := box_new w37 #[.int .i64 (oS s1 (geoR s1 s2 u1 u2)), .int .i64 (oA (geoR s1 s2 u1 u2))] 38
      have q38 : (w37.alloc (.cells #[.int .i64 (oS s1 (geoR s1 s2 u1 u2)), .int .i64 (oA (geoR s1 s2 u1 u2))] 38)).heap.size = w37.heap.size + 1 := by simp
      obtain ⟨gb, hgb⟩ : ∃ g, w37.heap.size = g := ⟨_, rfl⟩
      generalize w37.alloc (.cells #[.int .i64 (oS s1 (geoR s1 s2 u1 u2)), .int .i64 (oA (geoR s1 s2 u1 u2))] 38) = w38 at *
      have B38 := B37.trans (b38.mono B37.size)
      replace xs := box_below xs b38
      replace xu := box_below xu b38
      replace xa := box_below xa b38
      have S38 := b38.size
      clear b38 B37
      rw [hgb] at y38 q38 ⊢
      have xb := y38
      try rw [← q38]
      clear y38 q38 hgb
      refine (drawAddGauss_any _ _ _ _ (hb1.out.below B38) hn1).mono ?_
      rintro e w39 ⟨l3, m3, c3, x3, p3, q3, sd3, rfl, hm3, o3, b39⟩
      have B39 := B38.trans (b39.mono B38.size)
      replace xs := box_below xs b39
      replace xu := box_below xu b39
      replace xa := box_below xa b39
      replace xb := box_below xb b39
      have S39 := b39.size
      clear b39 B38
      go_wp2_with fail
      have b40 := below_new w39 (.cells #[.int .i64 p3, .int .i64 q3] 28)
      have y40 := box_new w39 #[.int .i64 p3, .int .i64 q3] 28
      have q40 : (w39.alloc (.cells #[.int .i64 p3, .int .i64 q3] 28)).heap.size = w39.heap.size + 1 := by simp
      obtain ⟨gv, hgv⟩ : ∃ g, w39.heap.size = g := ⟨_, rfl⟩
      generalize w39.alloc (.cells #[.int .i64 p3, .int .i64 q3] 28) = w40 at *
      have B40 := B39.trans (b40.mono B39.size)
      replace xs := box_below xs b40
      replace xu := box_below xu b40
      replace xa := box_below xa b40
      replace xb := box_below xb b40
      replace o3 := o3.below b40
      have S40 := b40.size
      clear b40 B39
      rw [hgv] at y40 q40 ⊢
      have xv := y40
      try rw [← q40]
      clear y40 q40 hgv
      refine (implAddGauss_law _ _ _ _ _ _ _ _ o3.ints o3.small).mono ?_
      rintro e w41 ⟨A4, c4, rfl, o4, b41⟩
      have B41 := B40.trans (b41.mono B40.size)
      replace xs := box_below xs b41
      replace xu := box_below xu b41
      replace xa := box_below xa b41
      replace xb := box_below xb b41
      replace xv := box_below xv b41
      replace o3 := o3.below b41
      have S41 := b41.size
      clear b41 B40
      have lv := lt_of_block xv
      have cv0 := box_cell xv 0 _ rfl
      have cv1 := box_cell xv 1 _ rfl
      go_wp2_with fail
      clear lv cv0 cv1
      refine (specAddGauss_law _ _ _ _ _ _ _ _ o3.ints o3.small).mono ?_
      rintro e w42 ⟨A5, c5, rfl, o5, b42⟩
      have B42 := B41.trans (b42.mono B41.size)
      replace xs := box_below xs b42
      replace xu := box_below xu b42
      replace xa := box_below xa b42
      replace xb := box_below xb b42
      replace xv := box_below xv b42
      replace o3 := o3.below b42
      replace o4 := o4.below b42
      have S42 := b42.size
      clear b42 B41
      go_wp2_with fail
      refine (sameInts_any _ _ _ _ _ _ _ o4.ints o5.ints o4.small).mono ?_
      rintro e w43 ⟨rfl, b43⟩
      have B43 := B42.trans (b43.mono B42.size)
      replace xs := box_below xs b43
      replace xu := box_below xu b43
      replace xa := box_below xa b43
      replace xb := box_below xb b43
      replace xv := box_below xv b43
      replace o3 := o3.below b43
      replace o4 := o4.below b43
      replace o5 := o5.below b43
      have S43 := b43.size
      clear b43 B42
      go_wp2
      go_ret
      exact ⟨rfl, B43⟩
end Go.Proofs.Ytfkdmddfadkjoaa
