/- The walk of the law FnStreams, printed by gdl.py. -/
import Derived.Test.YtfkdmddfadkjoaaLaw
import Derived.Test.YtfkdmddfadkjoaaStrLaw
namespace Go.Proofs.Ytfkdmddfadkjoaa
open Go.RowKit

theorem Try.infoBool : (Try.prog.info? 4).map (fun i => (i.zero, i.size, i.bytes)) = some (some (.bool false), 1, 1) := by kernel_rfl
theorem map_replicateF (n : Nat) : (madeCells (Value.bool false).cells (n * 1)).toList = (List.replicate n false).map Value.bool := by
  rw [Nat.mul_one, List.map_replicate]
  exact toList_madeCells_one _ _
/-- A row of truths of the call's own. -/
def OwnT (w : World) (B g n : Nat) (bs : List Bool) : Prop := w.ownsRow B 4 1 (.slice (some ⟨g, 0, none⟩) n n) n (bs.map Value.bool)
theorem OwnT.at_ {w : World} {B g n k : Nat} {bs : List Bool} (h : OwnT w B g n bs) (hk : k < n) : g < w.heap.size ∧ w.cell? ⟨g, k, none⟩ = some (.bool (bs[k]?.getD false)) ∧ w.frozen? ⟨g, k, none⟩ = false := by
  have hl : bs.length = n := by have := h.1; simpa using this
  rcases h.2 with ⟨hv, _⟩ | ⟨g', cap, cur, hv, _, hg, _⟩
  · simp at hv
  · simp only [Value.slice.injEq, Option.some.injEq, Addr.mk.injEq, and_true] at hv
    obtain ⟨rfl, _⟩ := hv
    refine ⟨lt_of_block hg, ?_, World.ownsRow.frozenAt h k⟩
    rw [World.ownsRow.cellAt h k (by omega)]
    rw [List.getElem?_map, List.getElem?_eq_getElem (by omega)]
    rfl
theorem OwnT.set {w : World} {B g n k : Nat} {bs : List Bool} {x : Bool} (h : OwnT w B g n bs) : OwnT (w.setCell ⟨g, k, none⟩ (.bool x)) B g n (bs.set k x) := by
  have := (World.ownsRow.stored h k (.bool x)).1
  unfold OwnT
  rw [List.map_set]
  exact this

set_option maxRecDepth 100000 in
set_option maxHeartbeats 4000000 in
theorem walk_FnStreams (a0 : Option Addr) (n0 c0 : Nat) (z0 : List Int) (a1 : Option Addr) (n1 c1 : Nat) (z1 : List Int) (w : World) (r0 : Bytes w a0 n0 z0) (m0 : n0 ≤ maxLen) (f0 : ∀ x ∈ z0, (Lit.int .u8 x).wf = true) (r1 : Bytes w a1 n1 z1) (_m1 : n1 ≤ maxLen) (f1 : ∀ x ∈ z1, (Lit.int .u8 x).wf = true) :
    Calls Try.prog 7 #[.slice a0 n0 c0, .slice a1 n1 c1] w fun e w' => e = .returned (.bool true) ∧ Below w.heap.size w w' := by
  have hb0 := Lib.hid (byt_of r0 f0)
  have hb1 := Lib.hid (byt_of r1 f1)
  have B0 := Below.refl w.heap.size w
  clear r0 f0 r1 f1
  go_enter Try.func7, Try.ntmps7
  go_wp2_with fail
  refine (big_any _ _ _ _ _ _ _ m0).mono ?_
  rintro e w' ⟨rfl, rfl⟩
  cases hbig : bigB n0 n1
  case true =>
    clear hbig
    go_wp2
    go_ret
    exact ⟨rfl, B0⟩
  have hbg := bigB_of hbig
  have hn0 := hbg.1
  have hn1 := hbg.2
  clear hbig hbg m0
  go_wp2_with fail
  refine (drawUniformBelow_any _ _ _ _ (hb0.out.below B0) hn0).mono ?_
  rintro e w1 ⟨s1, s2, n1', rfl, b1⟩
  have B1 := B0.trans (b1.mono B0.size)
  have S1 := b1.size
  clear b1 B0
  go_wp2_with fail
  have b2 := below_new w1 (.cells #[.int .i64 s1, .int .i64 s2] 38)
  have y2 := box_new w1 #[.int .i64 s1, .int .i64 s2] 38
  have q2 : (w1.alloc (.cells #[.int .i64 s1, .int .i64 s2] 38)).heap.size = w1.heap.size + 1 := by simp
  obtain ⟨gs, hgs⟩ : ∃ g, w1.heap.size = g := ⟨_, rfl⟩
  generalize w1.alloc (.cells #[.int .i64 s1, .int .i64 s2] 38) = w2 at *
  have B2 := B1.trans (b2.mono B1.size)
  have S2 := b2.size
  clear b2 B1
  rw [hgs] at y2 q2 ⊢
  have xs := y2
  try rw [← q2]
  clear y2 q2 hgs
  refine (implUniformBelow_law _ _ _ _).mono ?_
  rintro e w3 ⟨rfl, b3⟩
  have B3 := B2.trans (b3.mono B2.size)
  replace xs := box_below xs b3
  have S3 := b3.size
  clear b3 B2
  have ls := lt_of_block xs
  have cs0 := box_cell xs 0 _ rfl
  have cs1 := box_cell xs 1 _ rfl
  go_wp2_with fail
  clear ls cs0 cs1
  have b4 := below_new w3 (.cells #[.int .i64 (oS s1 (uniR s1 s2 n1')), .int .i64 (oA (uniR s1 s2 n1'))] 38)
  have y4 := box_new w3 #[.int .i64 (oS s1 (uniR s1 s2 n1')), .int .i64 (oA (uniR s1 s2 n1'))] 38
  have q4 : (w3.alloc (.cells #[.int .i64 (oS s1 (uniR s1 s2 n1')), .int .i64 (oA (uniR s1 s2 n1'))] 38)).heap.size = w3.heap.size + 1 := by simp
  obtain ⟨ga, hga⟩ : ∃ g, w3.heap.size = g := ⟨_, rfl⟩
  generalize w3.alloc (.cells #[.int .i64 (oS s1 (uniR s1 s2 n1')), .int .i64 (oA (uniR s1 s2 n1'))] 38) = w4 at *
  have B4 := B3.trans (b4.mono B3.size)
  replace xs := box_below xs b4
  have S4 := b4.size
  clear b4 B3
  rw [hga] at y4 q4 ⊢
  have xa := y4
  try rw [← q4]
  clear y4 q4 hga
  refine (specUniformBelow_law _ _ _ _).mono ?_
  rintro e w5 ⟨rfl, b5⟩
  have B5 := B4.trans (b5.mono B4.size)
  replace xs := box_below xs b5
  replace xa := box_below xa b5
  have S5 := b5.size
  clear b5 B4
  have HU : Hid (∀ v a', (uniR s1 s2 n1') = some (v, a') → 0 ≤ v ∧ v < n1' ∧ s2 ≤ a' ∧ streamB s1 a' = true) := Lib.hid fun v a' h => uni_law h
  have la := lt_of_block xa
  have ca0 := box_cell xa 0 _ rfl
  have ca1 := box_cell xa 1 _ rfl
  have ls := lt_of_block xs
  have cs0 := box_cell xs 0 _ rfl
  have cs1 := box_cell xs 1 _ rfl
  cases hR : (uniR s1 s2 n1') with
  | none =>
    rw [hR] at xa ca0 ca1
    simp only [oV, oS, oA, oB] at xa ca0 ca1 ⊢
    clear hR HU
    go_wp2_with fail
    clear la ca0 ca1 ls cs0 cs1
    have b6 := below_new w5 (.cells #[.int .i64 0, .int .i64 0] 38)
    have y6 := box_new w5 #[.int .i64 0, .int .i64 0] 38
    have q6 : (w5.alloc (.cells #[.int .i64 0, .int .i64 0] 38)).heap.size = w5.heap.size + 1 := by simp
    obtain ⟨gb, hgb⟩ : ∃ g, w5.heap.size = g := ⟨_, rfl⟩
    generalize w5.alloc (.cells #[.int .i64 0, .int .i64 0] 38) = w6 at *
    have B6 := B5.trans (b6.mono B5.size)
    replace xs := box_below xs b6
    replace xa := box_below xa b6
    have S6 := b6.size
    clear b6 B5
    rw [hgb] at y6 q6 ⊢
    have xb := y6
    try rw [← q6]
    clear y6 q6 hgb
    clear xs xa xb
    refine (drawBitsFrom_any _ _ _ _ (hb0.out.below B6) hn0).mono ?_
    rintro e w7 ⟨t1, t2, k1, rfl, b7⟩
    have B7 := B6.trans (b7.mono B6.size)
    have S7 := b7.size
    clear b7 B6
    go_wp2_with fail
    have b8 := below_new w7 (.cells #[.int .i64 t1, .int .i64 t2] 38)
    have y8 := box_new w7 #[.int .i64 t1, .int .i64 t2] 38
    have q8 : (w7.alloc (.cells #[.int .i64 t1, .int .i64 t2] 38)).heap.size = w7.heap.size + 1 := by simp
    obtain ⟨gt, hgt⟩ : ∃ g, w7.heap.size = g := ⟨_, rfl⟩
    generalize w7.alloc (.cells #[.int .i64 t1, .int .i64 t2] 38) = w8 at *
    have B8 := B7.trans (b8.mono B7.size)
    have S8 := b8.size
    clear b8 B7
    rw [hgt] at y8 q8 ⊢
    have xt := y8
    try rw [← q8]
    clear y8 q8 hgt
    refine (implBitsFrom_law _ _ _ _).mono ?_
    rintro e w9 ⟨A2, c2, rfl, o2, b9⟩
    have B9 := B8.trans (b9.mono B8.size)
    replace xt := box_below xt b9
    have S9 := b9.size
    clear b9 B8
    have lt := lt_of_block xt
    have ct0 := box_cell xt 0 _ rfl
    have ct1 := box_cell xt 1 _ rfl
    go_wp2_with fail
    clear lt ct0 ct1
    have b10 := below_new w9 (.cells #[.int .i64 (oS t1 (bitsR t1 t2 k1)), .int .i64 (oA (bitsR t1 t2 k1))] 38)
    have y10 := box_new w9 #[.int .i64 (oS t1 (bitsR t1 t2 k1)), .int .i64 (oA (bitsR t1 t2 k1))] 38
    have q10 : (w9.alloc (.cells #[.int .i64 (oS t1 (bitsR t1 t2 k1)), .int .i64 (oA (bitsR t1 t2 k1))] 38)).heap.size = w9.heap.size + 1 := by simp
    obtain ⟨gc, hgc⟩ : ∃ g, w9.heap.size = g := ⟨_, rfl⟩
    generalize w9.alloc (.cells #[.int .i64 (oS t1 (bitsR t1 t2 k1)), .int .i64 (oA (bitsR t1 t2 k1))] 38) = w10 at *
    have B10 := B9.trans (b10.mono B9.size)
    replace xt := box_below xt b10
    replace o2 := o2.below b10
    have S10 := b10.size
    clear b10 B9
    rw [hgc] at y10 q10 ⊢
    have xc := y10
    try rw [← q10]
    clear y10 q10 hgc
    refine (specBitsFrom_law _ _ _ _).mono ?_
    rintro e w11 ⟨A3, c3, rfl, o3, b11⟩
    have B11 := B10.trans (b11.mono B10.size)
    replace xt := box_below xt b11
    replace xc := box_below xc b11
    replace o2 := o2.below b11
    have S11 := b11.size
    clear b11 B10
    have lc := lt_of_block xc
    have cc0 := box_cell xc 0 _ rfl
    have cc1 := box_cell xc 1 _ rfl
    go_wp2_with fail
    clear lc cc0 cc1
    have b12 := below_new w11 (.cells #[.int .i64 (oS t1 (bitsR t1 t2 k1)), .int .i64 (oA (bitsR t1 t2 k1))] 38)
    have y12 := box_new w11 #[.int .i64 (oS t1 (bitsR t1 t2 k1)), .int .i64 (oA (bitsR t1 t2 k1))] 38
    have q12 : (w11.alloc (.cells #[.int .i64 (oS t1 (bitsR t1 t2 k1)), .int .i64 (oA (bitsR t1 t2 k1))] 38)).heap.size = w11.heap.size + 1 := by simp
    obtain ⟨gd, hgd⟩ : ∃ g, w11.heap.size = g := ⟨_, rfl⟩
    generalize w11.alloc (.cells #[.int .i64 (oS t1 (bitsR t1 t2 k1)), .int .i64 (oA (bitsR t1 t2 k1))] 38) = w12 at *
    have B12 := B11.trans (b12.mono B11.size)
    replace xt := box_below xt b12
    replace xc := box_below xc b12
    replace o2 := o2.below b12
    replace o3 := o3.below b12
    have S12 := b12.size
    clear b12 B11
    rw [hgd] at y12 q12 ⊢
    have xd := y12
    try rw [← q12]
    clear y12 q12 hgd
    refine (sameInts_any _ _ _ _ _ _ _ o2.ints o3.ints o2.small).mono ?_
    rintro e w13 ⟨rfl, b13⟩
    have B13 := B12.trans (b13.mono B12.size)
    replace xt := box_below xt b13
    replace xc := box_below xc b13
    replace xd := box_below xd b13
    replace o2 := o2.below b13
    replace o3 := o3.below b13
    have S13 := b13.size
    clear b13 B12
    have lc := lt_of_block xc
    have cc0 := box_cell xc 0 _ rfl
    have cc1 := box_cell xc 1 _ rfl
    have ld := lt_of_block xd
    have cd0 := box_cell xd 0 _ rfl
    have cd1 := box_cell xd 1 _ rfl
    have HB : Hid (∀ k : Nat, k < (oL (bitsR t1 t2 k1)).length → 0 ≤ t2 ∧ t2 ≤ 1000000 ∧ t2 + k < 1000000 ∧ bitB t1 (t2 + k) = true ∧ bitR t1 (t2 + k) = (oL (bitsR t1 t2 k1))[k]?.getD 0) := Lib.hid fun k hk => by
      cases hR : (bitsR t1 t2 k1) with
      | none => rw [hR] at hk; simp [oL] at hk
      | some r => obtain ⟨l, a'⟩ := r; rw [hR] at hk; exact bits_law hR hk
    have hsm := o3.small
    have HL3 := Lib.hid o3.own.len
    go_wp2
    clear lc cc0 cc1 ld cd0 cd1
    obtain ⟨LL, hLL⟩ : ∃ LL, (oL (bitsR t1 t2 k1)).length = LL := ⟨_, rfl⟩
    rw [hLL] at HB hsm o3 ⊢
    clear hLL HL3 o2
    go_loopw [130] (fun i wr => ∃ k : Nat, k ≤ LL ∧ i = .int .i64 k ∧ Below w13.heap.size w13 wr) (fun i _ => LL - (intOf i).toNat)
    case atStart => exact ⟨0, Nat.zero_le _, rfl, Below.refl _ _⟩
    case round =>
      obtain ⟨k, hk, rfl, hbk⟩ := hrel
      by_cases hlt : k < LL
      · have hbb := HB.out k hlt
        obtain ⟨ad, rfl, hc⟩ := (o3.below hbk).ints.at_ hlt
        have xt2 := box_below xt hbk
        have ct0 := box_cell xt2 0 _ rfl
        have ct1 := box_cell xt2 1 _ rfl
        have hbk0 := hbk
        have ht0 := hbb.1
        have ht1 := hbb.2.1
        have ht2 := hbb.2.2.1
        have HE1 := Lib.hid hbb.2.2.2.1
        have HE2 := Lib.hid hbb.2.2.2.2
        clear hbb
        go_wp2_with fail
        refine (implBitAt_any _ _ _).mono ?_
        rintro e w7 ⟨rfl, b7⟩
        rw [HE1.out, HE2.out]
        have b8 := hbk.trans (b7.mono hbk.size)
        clear hbk hbk0 b7 hc ct0 ct1 xt2
        go_wp2
        go_roundw
        case rel => exact ⟨k + 1, by omega, by go_num, b8⟩
        case measure => simp [intOf]; omega
      · obtain rfl : k = LL := by omega
        clear hlt
        have b9 := hbk
        clear hbk o3 xt xc xd HB
        have B14 := B13.trans (b9.mono B13.size)
        have S14 := b9.size
        clear b9 B13
        go_wp2_with fail
        refine (drawShuffleWith_any _ _ _ _ (hb1.out.below B14) hn1).mono ?_
        rintro e w15 ⟨u1, u2, m1, rfl, b15⟩
        have B15 := B14.trans (b15.mono B14.size)
        have S15 := b15.size
        clear b15 B14
        go_wp2_with fail
        have b16 := below_new w15 (.cells #[.int .i64 u1, .int .i64 u2] 38)
        have y16 := box_new w15 #[.int .i64 u1, .int .i64 u2] 38
        have q16 : (w15.alloc (.cells #[.int .i64 u1, .int .i64 u2] 38)).heap.size = w15.heap.size + 1 := by simp
        obtain ⟨gu, hgu⟩ : ∃ g, w15.heap.size = g := ⟨_, rfl⟩
        generalize w15.alloc (.cells #[.int .i64 u1, .int .i64 u2] 38) = w16 at *
        have B16 := B15.trans (b16.mono B15.size)
        have S16 := b16.size
        clear b16 B15
        rw [hgu] at y16 q16 ⊢
        have xu := y16
        try rw [← q16]
        clear y16 q16 hgu
        refine (implShuffleWith_law _ _ _ _).mono ?_
        rintro e w17 ⟨A4, c4, rfl, o4, b17⟩
        have B17 := B16.trans (b17.mono B16.size)
        replace xu := box_below xu b17
        have S17 := b17.size
        clear b17 B16
        have lu := lt_of_block xu
        have cu0 := box_cell xu 0 _ rfl
        have cu1 := box_cell xu 1 _ rfl
        go_wp2_with fail
        clear lu cu0 cu1
        have b18 := below_new w17 (.cells #[.int .i64 (oS u1 (shufR u1 u2 m1)), .int .i64 (oA (shufR u1 u2 m1))] 38)
        have y18 := box_new w17 #[.int .i64 (oS u1 (shufR u1 u2 m1)), .int .i64 (oA (shufR u1 u2 m1))] 38
        have q18 : (w17.alloc (.cells #[.int .i64 (oS u1 (shufR u1 u2 m1)), .int .i64 (oA (shufR u1 u2 m1))] 38)).heap.size = w17.heap.size + 1 := by simp
        obtain ⟨ge, hge⟩ : ∃ g, w17.heap.size = g := ⟨_, rfl⟩
        generalize w17.alloc (.cells #[.int .i64 (oS u1 (shufR u1 u2 m1)), .int .i64 (oA (shufR u1 u2 m1))] 38) = w18 at *
        have B18 := B17.trans (b18.mono B17.size)
        replace xu := box_below xu b18
        replace o4 := o4.below b18
        have S18 := b18.size
        clear b18 B17
        rw [hge] at y18 q18 ⊢
        have xe := y18
        try rw [← q18]
        clear y18 q18 hge
        refine (specShuffleWith_law _ _ _ _).mono ?_
        rintro e w19 ⟨A5, c5, rfl, o5, b19⟩
        have B19 := B18.trans (b19.mono B18.size)
        replace xu := box_below xu b19
        replace xe := box_below xe b19
        replace o4 := o4.below b19
        have S19 := b19.size
        clear b19 B18
        have le := lt_of_block xe
        have ce0 := box_cell xe 0 _ rfl
        have ce1 := box_cell xe 1 _ rfl
        go_wp2_with fail
        clear le ce0 ce1
        have b20 := below_new w19 (.cells #[.int .i64 (oS u1 (shufR u1 u2 m1)), .int .i64 (oA (shufR u1 u2 m1))] 38)
        have y20 := box_new w19 #[.int .i64 (oS u1 (shufR u1 u2 m1)), .int .i64 (oA (shufR u1 u2 m1))] 38
        have q20 : (w19.alloc (.cells #[.int .i64 (oS u1 (shufR u1 u2 m1)), .int .i64 (oA (shufR u1 u2 m1))] 38)).heap.size = w19.heap.size + 1 := by simp
        obtain ⟨gf, hgf⟩ : ∃ g, w19.heap.size = g := ⟨_, rfl⟩
        generalize w19.alloc (.cells #[.int .i64 (oS u1 (shufR u1 u2 m1)), .int .i64 (oA (shufR u1 u2 m1))] 38) = w20 at *
        have B20 := B19.trans (b20.mono B19.size)
        replace xu := box_below xu b20
        replace xe := box_below xe b20
        replace o4 := o4.below b20
        replace o5 := o5.below b20
        have S20 := b20.size
        clear b20 B19
        rw [hgf] at y20 q20 ⊢
        have xf := y20
        try rw [← q20]
        clear y20 q20 hgf
        refine (sameInts_any _ _ _ _ _ _ _ o4.ints o5.ints o4.small).mono ?_
        rintro e w21 ⟨rfl, b21⟩
        have B21 := B20.trans (b21.mono B20.size)
        replace xu := box_below xu b21
        replace xe := box_below xe b21
        replace xf := box_below xf b21
        replace o4 := o4.below b21
        replace o5 := o5.below b21
        have S21 := b21.size
        clear b21 B20
        have HD : Hid (Dif (oL (shufR u1 u2 m1)) (oL (shufR u1 u2 m1)).length ∧ (oB (shufR u1 u2 m1) = true → ((oL (shufR u1 u2 m1)).length : Int) = m1)) := Lib.hid (by
          cases hR : (shufR u1 u2 m1) with
          | none => exact ⟨⟨rfl, fun i hi => absurd hi (by simp [oL]), fun i j hi => absurd hi (by simp [oL])⟩, fun h => by cases h⟩
          | some r => obtain ⟨l, a'⟩ := r; have := shuf_law hR; exact ⟨this.1, fun _ => this.2⟩)
        obtain ⟨LO, hLO⟩ : ∃ LO, oL (shufR u1 u2 m1) = LO := ⟨_, rfl⟩
        rw [hLO] at HD o4 o5 ⊢
        obtain ⟨ok, hok⟩ : ∃ ok, oB (shufR u1 u2 m1) = ok := ⟨_, rfl⟩
        rw [hok] at HD ⊢
        clear hLO hok
        have hsm2 := o5.small
        have HD1 := Lib.hid HD.out.1
        have HD2 := Lib.hid HD.out.2
        clear HD o4
        have le := lt_of_block xe
        have ce0 := box_cell xe 0 _ rfl
        have ce1 := box_cell xe 1 _ rfl
        have lf := lt_of_block xf
        have cf0 := box_cell xf 0 _ rfl
        have cf1 := box_cell xf 1 _ rfl
        obtain ⟨i0, hi, hz00, hz1, hz2⟩ := info_parts Try.infoBool
        go_wp2_with (at_make; refine wpList_make_full _ rfl _ _ 53 rfl w21.heap.size 4 i0 _ 1 Try.underlying53 hi hz00 hz1 .i64 .i64 _ _ LO.length rfl rfl rfl rfl (by rw [hz2]; omega) (by unfold maxLen; omega) (Nat.le_refl _) ?_; intro w11 hown hg; have b11 : Below w21.heap.size w21 w11 := (Below.refl _ _).grown hg (Nat.le_refl _) (by simp))
        clear le ce0 ce1 lf cf0 cf1
        rw [map_replicateF] at hown
        have hT : OwnT w11 w21.heap.size w21.heap.size LO.length (List.replicate LO.length false) := hown
        clear hown hg hi hz00 hz1 hz2 xe xf xu
        obtain ⟨gt, hgt⟩ : ∃ g, w21.heap.size = g := ⟨_, rfl⟩
        have hgt5 : ∀ j, rowOf A5 = some j → j < gt := fun j hj => by have := o5.top j hj; omega
        have hlo := hgt
        have o6 : OwnI w11 0 gt A5 LO.length c5 LO := ⟨(o5.below b11).own.mono (Nat.zero_le _), hgt5, hsm2⟩
        rw [hgt] at hT ⊢
        clear o5 hgt5
        have B22 := B21.trans (b11.mono B21.size)
        have S22 := b11.size
        clear b11 B21
        have hwg : w.heap.size ≤ gt := by omega
        clear hlo hgt
        go_loopw [191] (fun i wr => ∃ (k : Nat) (bs : List Bool), k ≤ LO.length ∧ i = .int .i64 k ∧ Seen LO bs k ∧ OwnT wr gt gt LO.length bs ∧ OwnI wr 0 gt A5 LO.length c5 LO ∧ Below w.heap.size w wr) (fun i _ => LO.length - (intOf i).toNat)
        case atStart => exact ⟨0, _, Nat.zero_le _, rfl, Seen.start _, hT, o6, B22⟩
        case round =>
          clear hT o6 B22
          obtain ⟨k, bs, hk, rfl, hsn, hT, o6, hb⟩ := hrel
          by_cases hlt : k < LO.length
          · obtain ⟨ad, rfl, hc⟩ := o6.ints.at_ hlt
            have hv := HD1.out.2.1 k hlt
            have HF := Lib.hid (fun x h => hsn.free HD1.out hlt (x := x) h)
            have HS := Lib.hid (fun x h => hsn.step (t := k) (x := x) h)
            clear hsn
            obtain ⟨x, hxe⟩ : ∃ x, LO[k]?.getD 0 = x := ⟨_, rfl⟩
            rw [hxe] at hc hv HF HS
            clear hxe
            obtain ⟨xn, rfl⟩ := Int.eq_ofNat_of_zero_le hv.1
            have hx1 : xn < LO.length := by omega
            clear hv
            obtain ⟨hg, hct, hft⟩ := hT.at_ hx1
            rw [HF.out xn rfl] at hct
            have HT2 := Lib.hid (hT.set (k := xn) (x := true))
            have HO2 := Lib.hid (o6.chg ((Chg.refl gt (gt + 1) wr).set (g := gt) (i := xn) (v := .bool true) (Nat.le_refl _) (by omega)) (.inl (Nat.le_refl _)))
            have HB2 := Lib.hid (hb.setCell (p := ⟨gt, xn, none⟩) (by show w.heap.size ≤ gt; omega) (.bool true))
            clear HF hT o6 hb
            go_wp2
            go_roundw
            case rel => exact ⟨k + 1, _, by omega, by go_num, HS.out xn rfl, HT2.out, HO2.out, HB2.out⟩
            case measure => simp [intOf]; omega
          · clear hsn hT o6
            cases ok
            · go_wp2
              go_ret
              exact ⟨rfl, hb⟩
            · have hmm : (((LO.length : Nat) : Int) == m1) = true := beq_iff_eq.2 (HD2.out rfl)
              go_wp2
              go_ret
              exact ⟨rfl, hb⟩
  | some r =>
    obtain ⟨v, a'⟩ := r
    have hu := HU.out v a' hR
    rw [hR] at xa ca0 ca1
    simp only [oV, oS, oA, oB] at xa ca0 ca1 ⊢
    clear hR HU
    have hv0 := hu.1
    have hv1 := hu.2.1
    have hv2 := hu.2.2.1
    have HSB := Lib.hid hu.2.2.2
    clear hu
    go_wp2_with fail
    clear la ca0 ca1 ls cs0 cs1
    have b23 := below_new w5 (.cells #[.int .i64 s1, .int .i64 a'] 38)
    have y23 := box_new w5 #[.int .i64 s1, .int .i64 a'] 38
    have q23 : (w5.alloc (.cells #[.int .i64 s1, .int .i64 a'] 38)).heap.size = w5.heap.size + 1 := by simp
    obtain ⟨gb, hgb⟩ : ∃ g, w5.heap.size = g := ⟨_, rfl⟩
    generalize w5.alloc (.cells #[.int .i64 s1, .int .i64 a'] 38) = w23 at *
    have B23 := B5.trans (b23.mono B5.size)
    replace xs := box_below xs b23
    replace xa := box_below xa b23
    have S23 := b23.size
    clear b23 B5
    rw [hgb] at y23 q23 ⊢
    have xb := y23
    try rw [← q23]
    clear y23 q23 hgb
    refine (implIsStream_any _ _ _).mono ?_
    rintro e w24 ⟨rfl, b24⟩
    have B24 := B23.trans (b24.mono B23.size)
    replace xs := box_below xs b24
    replace xa := box_below xa b24
    replace xb := box_below xb b24
    have S24 := b24.size
    clear b24 B23
    rw [HSB.out]
    clear HSB
    have ls := lt_of_block xs
    have cs0 := box_cell xs 0 _ rfl
    have cs1 := box_cell xs 1 _ rfl
    go_wp2_with fail
    clear ls cs0 cs1
    clear xs xa xb
    refine (drawBitsFrom_any _ _ _ _ (hb0.out.below B24) hn0).mono ?_
    rintro e w25 ⟨t1, t2, k1, rfl, b25⟩
    have B25 := B24.trans (b25.mono B24.size)
    have S25 := b25.size
    clear b25 B24
    go_wp2_with fail
    have b26 := below_new w25 (.cells #[.int .i64 t1, .int .i64 t2] 38)
    have y26 := box_new w25 #[.int .i64 t1, .int .i64 t2] 38
    have q26 : (w25.alloc (.cells #[.int .i64 t1, .int .i64 t2] 38)).heap.size = w25.heap.size + 1 := by simp
    obtain ⟨gt, hgt⟩ : ∃ g, w25.heap.size = g := ⟨_, rfl⟩
    generalize w25.alloc (.cells #[.int .i64 t1, .int .i64 t2] 38) = w26 at *
    have B26 := B25.trans (b26.mono B25.size)
    have S26 := b26.size
    clear b26 B25
    rw [hgt] at y26 q26 ⊢
    have xt := y26
    try rw [← q26]
    clear y26 q26 hgt
    refine (implBitsFrom_law _ _ _ _).mono ?_
    rintro e w27 ⟨A2, c2, rfl, o2, b27⟩
    have B27 := B26.trans (b27.mono B26.size)
    replace xt := box_below xt b27
    have S27 := b27.size
    clear b27 B26
    have lt := lt_of_block xt
    have ct0 := box_cell xt 0 _ rfl
    have ct1 := box_cell xt 1 _ rfl
    go_wp2_with fail
    clear lt ct0 ct1
    have b28 := below_new w27 (.cells #[.int .i64 (oS t1 (bitsR t1 t2 k1)), .int .i64 (oA (bitsR t1 t2 k1))] 38)
    have y28 := box_new w27 #[.int .i64 (oS t1 (bitsR t1 t2 k1)), .int .i64 (oA (bitsR t1 t2 k1))] 38
    have q28 : (w27.alloc (.cells #[.int .i64 (oS t1 (bitsR t1 t2 k1)), .int .i64 (oA (bitsR t1 t2 k1))] 38)).heap.size = w27.heap.size + 1 := by simp
    obtain ⟨gc, hgc⟩ : ∃ g, w27.heap.size = g := ⟨_, rfl⟩
    generalize w27.alloc (.cells #[.int .i64 (oS t1 (bitsR t1 t2 k1)), .int .i64 (oA (bitsR t1 t2 k1))] 38) = w28 at *
    have B28 := B27.trans (b28.mono B27.size)
    replace xt := box_below xt b28
    replace o2 := o2.below b28
    have S28 := b28.size
    clear b28 B27
    rw [hgc] at y28 q28 ⊢
    have xc := y28
    try rw [← q28]
    clear y28 q28 hgc
    refine (specBitsFrom_law _ _ _ _).mono ?_
    rintro e w29 ⟨A3, c3, rfl, o3, b29⟩
    have B29 := B28.trans (b29.mono B28.size)
    replace xt := box_below xt b29
    replace xc := box_below xc b29
    replace o2 := o2.below b29
    have S29 := b29.size
    clear b29 B28
    have lc := lt_of_block xc
    have cc0 := box_cell xc 0 _ rfl
    have cc1 := box_cell xc 1 _ rfl
    go_wp2_with fail
    clear lc cc0 cc1
    have b30 := below_new w29 (.cells #[.int .i64 (oS t1 (bitsR t1 t2 k1)), .int .i64 (oA (bitsR t1 t2 k1))] 38)
    have y30 := box_new w29 #[.int .i64 (oS t1 (bitsR t1 t2 k1)), .int .i64 (oA (bitsR t1 t2 k1))] 38
    have q30 : (w29.alloc (.cells #[.int .i64 (oS t1 (bitsR t1 t2 k1)), .int .i64 (oA (bitsR t1 t2 k1))] 38)).heap.size = w29.heap.size + 1 := by simp
    obtain ⟨gd, hgd⟩ : ∃ g, w29.heap.size = g := ⟨_, rfl⟩
    generalize w29.alloc (.cells #[.int .i64 (oS t1 (bitsR t1 t2 k1)), .int .i64 (oA (bitsR t1 t2 k1))] 38) = w30 at *
    have B30 := B29.trans (b30.mono B29.size)
    replace xt := box_below xt b30
    replace xc := box_below xc b30
    replace o2 := o2.below b30
    replace o3 := o3.below b30
    have S30 := b30.size
    clear b30 B29
    rw [hgd] at y30 q30 ⊢
    have xd := y30
    try rw [← q30]
    clear y30 q30 hgd
    refine (sameInts_any _ _ _ _ _ _ _ o2.ints o3.ints o2.small).mono ?_
    rintro e w31 ⟨rfl, b31⟩
    have B31 := B30.trans (b31.mono B30.size)
    replace xt := box_below xt b31
    replace xc := box_below xc b31
    replace xd := box_below xd b31
    replace o2 := o2.below b31
    replace o3 := o3.below b31
    have S31 := b31.size
    clear b31 B30
    have lc := lt_of_block xc
    have cc0 := box_cell xc 0 _ rfl
    have cc1 := box_cell xc 1 _ rfl
    have ld := lt_of_block xd
    have cd0 := box_cell xd 0 _ rfl
    have cd1 := box_cell xd 1 _ rfl
    have HB : Hid (∀ k : Nat, k < (oL (bitsR t1 t2 k1)).length → 0 ≤ t2 ∧ t2 ≤ 1000000 ∧ t2 + k < 1000000 ∧ bitB t1 (t2 + k) = true ∧ bitR t1 (t2 + k) = (oL (bitsR t1 t2 k1))[k]?.getD 0) := Lib.hid fun k hk => by
      cases hR : (bitsR t1 t2 k1) with
      | none => rw [hR] at hk; simp [oL] at hk
      | some r => obtain ⟨l, a'⟩ := r; rw [hR] at hk; exact bits_law hR hk
    have hsm := o3.small
    have HL3 := Lib.hid o3.own.len
    go_wp2
    clear lc cc0 cc1 ld cd0 cd1
    obtain ⟨LL, hLL⟩ : ∃ LL, (oL (bitsR t1 t2 k1)).length = LL := ⟨_, rfl⟩
    rw [hLL] at HB hsm o3 ⊢
    clear hLL HL3 o2
    go_loopw [130] (fun i wr => ∃ k : Nat, k ≤ LL ∧ i = .int .i64 k ∧ Below w31.heap.size w31 wr) (fun i _ => LL - (intOf i).toNat)
    case atStart => exact ⟨0, Nat.zero_le _, rfl, Below.refl _ _⟩
    case round =>
      obtain ⟨k, hk, rfl, hbk⟩ := hrel
      by_cases hlt : k < LL
      · have hbb := HB.out k hlt
        obtain ⟨ad, rfl, hc⟩ := (o3.below hbk).ints.at_ hlt
        have xt2 := box_below xt hbk
        have ct0 := box_cell xt2 0 _ rfl
        have ct1 := box_cell xt2 1 _ rfl
        have hbk0 := hbk
        have ht0 := hbb.1
        have ht1 := hbb.2.1
        have ht2 := hbb.2.2.1
        have HE1 := Lib.hid hbb.2.2.2.1
        have HE2 := Lib.hid hbb.2.2.2.2
        clear hbb
        go_wp2_with fail
        refine (implBitAt_any _ _ _).mono ?_
        rintro e w7 ⟨rfl, b7⟩
        rw [HE1.out, HE2.out]
        have b8 := hbk.trans (b7.mono hbk.size)
        clear hbk hbk0 b7 hc ct0 ct1 xt2
        go_wp2
        go_roundw
        case rel => exact ⟨k + 1, by omega, by go_num, b8⟩
        case measure => simp [intOf]; omega
      · obtain rfl : k = LL := by omega
        clear hlt
        have b9 := hbk
        clear hbk o3 xt xc xd HB
        have B32 := B31.trans (b9.mono B31.size)
        have S32 := b9.size
        clear b9 B31
        go_wp2_with fail
        refine (drawShuffleWith_any _ _ _ _ (hb1.out.below B32) hn1).mono ?_
        rintro e w33 ⟨u1, u2, m1, rfl, b33⟩
        have B33 := B32.trans (b33.mono B32.size)
        have S33 := b33.size
        clear b33 B32
        go_wp2_with fail
        have b34 := below_new w33 (.cells #[.int .i64 u1, .int .i64 u2] 38)
        have y34 := box_new w33 #[.int .i64 u1, .int .i64 u2] 38
        have q34 : (w33.alloc (.cells #[.int .i64 u1, .int .i64 u2] 38)).heap.size = w33.heap.size + 1 := by simp
        obtain ⟨gu, hgu⟩ : ∃ g, w33.heap.size = g := ⟨_, rfl⟩
        generalize w33.alloc (.cells #[.int .i64 u1, .int .i64 u2] 38) = w34 at *
        have B34 := B33.trans (b34.mono B33.size)
        have S34 := b34.size
        clear b34 B33
        rw [hgu] at y34 q34 ⊢
        have xu := y34
        try rw [← q34]
        clear y34 q34 hgu
        refine (implShuffleWith_law _ _ _ _).mono ?_
        rintro e w35 ⟨A4, c4, rfl, o4, b35⟩
        have B35 := B34.trans (b35.mono B34.size)
        replace xu := box_below xu b35
        have S35 := b35.size
        clear b35 B34
        have lu := lt_of_block xu
        have cu0 := box_cell xu 0 _ rfl
        have cu1 := box_cell xu 1 _ rfl
        go_wp2_with fail
        clear lu cu0 cu1
        have b36 := below_new w35 (.cells #[.int .i64 (oS u1 (shufR u1 u2 m1)), .int .i64 (oA (shufR u1 u2 m1))] 38)
        have y36 := box_new w35 #[.int .i64 (oS u1 (shufR u1 u2 m1)), .int .i64 (oA (shufR u1 u2 m1))] 38
        have q36 : (w35.alloc (.cells #[.int .i64 (oS u1 (shufR u1 u2 m1)), .int .i64 (oA (shufR u1 u2 m1))] 38)).heap.size = w35.heap.size + 1 := by simp
        obtain ⟨ge, hge⟩ : ∃ g, w35.heap.size = g := ⟨_, rfl⟩
        generalize w35.alloc (.cells #[.int .i64 (oS u1 (shufR u1 u2 m1)), .int .i64 (oA (shufR u1 u2 m1))] 38) = w36 at *
        have B36 := B35.trans (b36.mono B35.size)
        replace xu := box_below xu b36
        replace o4 := o4.below b36
        have S36 := b36.size
        clear b36 B35
        rw [hge] at y36 q36 ⊢
        have xe := y36
        try rw [← q36]
        clear y36 q36 hge
        refine (specShuffleWith_law _ _ _ _).mono ?_
        rintro e w37 ⟨A5, c5, rfl, o5, b37⟩
        have B37 := B36.trans (b37.mono B36.size)
        replace xu := box_below xu b37
        replace xe := box_below xe b37
        replace o4 := o4.below b37
        have S37 := b37.size
        clear b37 B36
        have le := lt_of_block xe
        have ce0 := box_cell xe 0 _ rfl
        have ce1 := box_cell xe 1 _ rfl
        go_wp2_with fail
        clear le ce0 ce1
        have b38 := below_new w37 (.cells #[.int .i64 (oS u1 (shufR u1 u2 m1)), .int .i64 (oA (shufR u1 u2 m1))] 38)
        have y38 := box_new w37 #[.int .i64 (oS u1 (shufR u1 u2 m1)), .int .i64 (oA (shufR u1 u2 m1))] 38
        have q38 : (w37.alloc (.cells #[.int .i64 (oS u1 (shufR u1 u2 m1)), .int .i64 (oA (shufR u1 u2 m1))] 38)).heap.size = w37.heap.size + 1 := by simp
        obtain ⟨gf, hgf⟩ : ∃ g, w37.heap.size = g := ⟨_, rfl⟩
        generalize w37.alloc (.cells #[.int .i64 (oS u1 (shufR u1 u2 m1)), .int .i64 (oA (shufR u1 u2 m1))] 38) = w38 at *
        have B38 := B37.trans (b38.mono B37.size)
        replace xu := box_below xu b38
        replace xe := box_below xe b38
        replace o4 := o4.below b38
        replace o5 := o5.below b38
        have S38 := b38.size
        clear b38 B37
        rw [hgf] at y38 q38 ⊢
        have xf := y38
        try rw [← q38]
        clear y38 q38 hgf
        refine (sameInts_any _ _ _ _ _ _ _ o4.ints o5.ints o4.small).mono ?_
        rintro e w39 ⟨rfl, b39⟩
        have B39 := B38.trans (b39.mono B38.size)
        replace xu := box_below xu b39
        replace xe := box_below xe b39
        replace xf := box_below xf b39
        replace o4 := o4.below b39
        replace o5 := o5.below b39
        have S39 := b39.size
        clear b39 B38
        have HD : Hid (Dif (oL (shufR u1 u2 m1)) (oL (shufR u1 u2 m1)).length ∧ (oB (shufR u1 u2 m1) = true → ((oL (shufR u1 u2 m1)).length : Int) = m1)) := Lib.hid (by
          cases hR : (shufR u1 u2 m1) with
          | none => exact ⟨⟨rfl, fun i hi => absurd hi (by simp [oL]), fun i j hi => absurd hi (by simp [oL])⟩, fun h => by cases h⟩
          | some r => obtain ⟨l, a'⟩ := r; have := shuf_law hR; exact ⟨this.1, fun _ => this.2⟩)
        obtain ⟨LO, hLO⟩ : ∃ LO, oL (shufR u1 u2 m1) = LO := ⟨_, rfl⟩
        rw [hLO] at HD o4 o5 ⊢
        obtain ⟨ok, hok⟩ : ∃ ok, oB (shufR u1 u2 m1) = ok := ⟨_, rfl⟩
        rw [hok] at HD ⊢
        clear hLO hok
        have hsm2 := o5.small
        have HD1 := Lib.hid HD.out.1
        have HD2 := Lib.hid HD.out.2
        clear HD o4
        have le := lt_of_block xe
        have ce0 := box_cell xe 0 _ rfl
        have ce1 := box_cell xe 1 _ rfl
        have lf := lt_of_block xf
        have cf0 := box_cell xf 0 _ rfl
        have cf1 := box_cell xf 1 _ rfl
        obtain ⟨i0, hi, hz00, hz1, hz2⟩ := info_parts Try.infoBool
        go_wp2_with (at_make; refine wpList_make_full _ rfl _ _ 53 rfl w39.heap.size 4 i0 _ 1 Try.underlying53 hi hz00 hz1 .i64 .i64 _ _ LO.length rfl rfl rfl rfl (by rw [hz2]; omega) (by unfold maxLen; omega) (Nat.le_refl _) ?_; intro w11 hown hg; have b11 : Below w39.heap.size w39 w11 := (Below.refl _ _).grown hg (Nat.le_refl _) (by simp))
        clear le ce0 ce1 lf cf0 cf1
        rw [map_replicateF] at hown
        have hT : OwnT w11 w39.heap.size w39.heap.size LO.length (List.replicate LO.length false) := hown
        clear hown hg hi hz00 hz1 hz2 xe xf xu
        obtain ⟨gt, hgt⟩ : ∃ g, w39.heap.size = g := ⟨_, rfl⟩
        have hgt5 : ∀ j, rowOf A5 = some j → j < gt := fun j hj => by have := o5.top j hj; omega
        have hlo := hgt
        have o6 : OwnI w11 0 gt A5 LO.length c5 LO := ⟨(o5.below b11).own.mono (Nat.zero_le _), hgt5, hsm2⟩
        rw [hgt] at hT ⊢
        clear o5 hgt5
        have B40 := B39.trans (b11.mono B39.size)
        have S40 := b11.size
        clear b11 B39
        have hwg : w.heap.size ≤ gt := by omega
        clear hlo hgt
        go_loopw [191] (fun i wr => ∃ (k : Nat) (bs : List Bool), k ≤ LO.length ∧ i = .int .i64 k ∧ Seen LO bs k ∧ OwnT wr gt gt LO.length bs ∧ OwnI wr 0 gt A5 LO.length c5 LO ∧ Below w.heap.size w wr) (fun i _ => LO.length - (intOf i).toNat)
        case atStart => exact ⟨0, _, Nat.zero_le _, rfl, Seen.start _, hT, o6, B40⟩
        case round =>
          clear hT o6 B40
          obtain ⟨k, bs, hk, rfl, hsn, hT, o6, hb⟩ := hrel
          by_cases hlt : k < LO.length
          · obtain ⟨ad, rfl, hc⟩ := o6.ints.at_ hlt
            have hv := HD1.out.2.1 k hlt
            have HF := Lib.hid (fun x h => hsn.free HD1.out hlt (x := x) h)
            have HS := Lib.hid (fun x h => hsn.step (t := k) (x := x) h)
            clear hsn
            obtain ⟨x, hxe⟩ : ∃ x, LO[k]?.getD 0 = x := ⟨_, rfl⟩
            rw [hxe] at hc hv HF HS
            clear hxe
            obtain ⟨xn, rfl⟩ := Int.eq_ofNat_of_zero_le hv.1
            have hx1 : xn < LO.length := by omega
            clear hv
            obtain ⟨hg, hct, hft⟩ := hT.at_ hx1
            rw [HF.out xn rfl] at hct
            have HT2 := Lib.hid (hT.set (k := xn) (x := true))
            have HO2 := Lib.hid (o6.chg ((Chg.refl gt (gt + 1) wr).set (g := gt) (i := xn) (v := .bool true) (Nat.le_refl _) (by omega)) (.inl (Nat.le_refl _)))
            have HB2 := Lib.hid (hb.setCell (p := ⟨gt, xn, none⟩) (by show w.heap.size ≤ gt; omega) (.bool true))
            clear HF hT o6 hb
            go_wp2
            go_roundw
            case rel => exact ⟨k + 1, _, by omega, by go_num, HS.out xn rfl, HT2.out, HO2.out, HB2.out⟩
            case measure => simp [intOf]; omega
          · clear hsn hT o6
            cases ok
            · go_wp2
              go_ret
              exact ⟨rfl, hb⟩
            · have hmm : (((LO.length : Nat) : Int) == m1) = true := beq_iff_eq.2 (HD2.out rfl)
              go_wp2
              go_ret
              exact ⟨rfl, hb⟩
end Go.Proofs.Ytfkdmddfadkjoaa
