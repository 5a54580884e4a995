/- BitsUsed, of the program and of the reference. -/
import Derived.Test.YtfkdmddfadkjoaaGaussSample
namespace Go.Proofs.Ytfkdmddfadkjoaa
open Go.RowKit

/-- The position behind so many samples. -/
def usdT (s p q : Int) : Nat → Int → Option Int
  | 0, a => some a
  | k + 1, a => match gauM s p q a with
    | none => none
    | some (_, b) => usdT s p q k b
theorem usdT_1 {s p q a : Int} {k : Nat} (h : gauM s p q a = none) : usdT s p q (k + 1) a = none := by simp only [usdT, h]
theorem usdT_2 {s p q a v b : Int} {k : Nat} (h : gauM s p q a = some (v, b)) : usdT s p q (k + 1) a = usdT s p q k b := by simp only [usdT, h]
/-- BitsUsed's answer. -/
def usdR (p q s n : Int) : Option Int := if sigmaB p q = true ∧ inR s 0 4611686016279904236 = true ∧ inR n 0 40 = true then usdT s p q n.toNat 0 else none
theorem usdR_1 {p q s n : Int} (h : sigmaB p q = false) : usdR p q s n = none := by unfold usdR; rw [if_neg (by simp [h])]
theorem usdR_2 {p q s n : Int} (h : inR s 0 4611686016279904236 = false) : usdR p q s n = none := by unfold usdR; rw [if_neg (by simp [h])]
theorem usdR_3 {p q s n : Int} (h : inR n 0 40 = false) : usdR p q s n = none := by unfold usdR; rw [if_neg (by simp [h])]
theorem usdR_4 {p q s : Int} {n : Nat} (h : sigmaB p q = true) (h2 : inR s 0 4611686016279904236 = true) (h3 : inR (n : Int) 0 40 = true) : usdR p q s n = usdT s p q n 0 := by unfold usdR; rw [if_pos ⟨h, h2, h3⟩]; simp
def oU (R : Option Int) : Int := R.getD 0
def bU (R : Option Int) : Bool := R.isSome
theorem u_yes {R : Option Int} {v : Int} (h : R = some v) : Ending.returned (.tuple #[.int .i64 v, .bool true]) = .returned (.tuple #[.int .i64 (oU R), .bool (bU R)]) := by subst h; rfl
theorem u_no {R : Option Int} (h : R = none) : Ending.returned (.tuple #[.int .i64 0, .bool false]) = .returned (.tuple #[.int .i64 (oU R), .bool (bU R)]) := by subst h; rfl

set_option maxRecDepth 100000 in
set_option maxHeartbeats 4000000 in
theorem implBitsUsed_law (p q s n : Int) (w : World) :
    Calls Try.prog 19 #[.agg #[.int .i64 p, .int .i64 q], .int .i64 s, .int .i64 n] w fun e w' => e = .returned (.tuple #[.int .i64 (oU (usdR p q s n)), .bool (bU (usdR p q s n))]) ∧ Below w.heap.size w w' := by
  have R1 := Lib.hid (usdR_1 (p := p) (q := q) (s := s) (n := n))
  have R2 := Lib.hid (usdR_2 (p := p) (q := q) (s := s) (n := n))
  have R3 := Lib.hid (usdR_3 (p := p) (q := q) (s := s) (n := n))
  have R4 := Lib.hid (fun m => usdR_4 (p := p) (q := q) (s := s) (n := m))
  have R5 := Lib.hid (show usdR p q s n = usdR p q s n from rfl)
  obtain ⟨R, hR⟩ : ∃ R, usdR p q s n = R := ⟨_, rfl⟩
  have HR := Lib.hid hR
  rw [hR] at R1 R2 R3
  rw [hR]
  clear hR R5
  have x0 := box_new w #[.int .i64 p, .int .i64 q] 28
  have b0 := below_new w (.cells #[.int .i64 p, .int .i64 q] 28)
  go_enter Try.func19, Try.ntmps19
  go_wp2_with fail
  generalize w.alloc (.cells #[.int .i64 p, .int .i64 q] 28) = w0 at *
  refine (isSigma2_any _ _ _).mono ?_
  rintro e w2 ⟨rfl, b2⟩
  replace x0 := box_below x0 b2
  replace b0 := b0.trans (b2.mono b0.size)
  clear b2
  cases hC : sigmaB p q
  · have E := Lib.hid (R1.out hC)
    clear hC R1 R2 R3 R4 HR
    go_wp2
    go_ret2
    exact ⟨u_no E.out, b0⟩
  · have HC := Lib.hid hC
    clear hC R1
    go_wp2_with fail
    refine (isSeed_any _ _).mono ?_
    rintro e w3 ⟨rfl, rfl⟩
    cases hS : inR s 0 4611686016279904236
    · have E := Lib.hid (R2.out hS)
      clear hS R2 R3 R4 HR
      go_wp2
      go_ret2
      exact ⟨u_no E.out, b0⟩
    · have HS := Lib.hid hS
      clear hS R2
      by_cases hn0 : n < 0
      · have E := Lib.hid (R3.out (inR_no (fun h => absurd h.1 (by omega))))
        clear R3 R4 HR
        go_wp2
        go_ret2
        exact ⟨u_no E.out, b0⟩
      · by_cases hn1 : 40 < n
        · have E := Lib.hid (R3.out (inR_no (fun h => absurd h.2 (by omega))))
          clear R3 R4 HR
          go_wp2
          go_ret2
          exact ⟨u_no E.out, b0⟩
        · obtain ⟨m, rfl⟩ := Int.eq_ofNat_of_zero_le (show 0 ≤ n by omega)
          have E := Lib.hid (HR.out.symm.trans (R4.out m HC.out HS.out (inR_yes (by omega) (by omega))))
          clear R3 R4 HR
          have hz := b0.size
          have hlx := lt_of_block x0
          have hs0 : StrAt (w2.alloc (.cells #[.int .i64 s, .int .i64 0] 38)) w2.heap.size s 0 := box_new _ _ _
          have bs := below_new w2 (.cells #[.int .i64 s, .int .i64 0] 38)
          replace x0 := box_below x0 bs
          have b1 := b0.trans (bs.mono b0.size)
          clear bs b0
          go_wp2
          generalize w2.alloc (.cells #[.int .i64 s, .int .i64 0] 38) = w3 at *
          go_loopw [30] (fun i wr => ∃ (k : Nat) (a : Int), k ≤ m ∧ i = .int .i64 k ∧ 0 ≤ a ∧ a ≤ 1000000 ∧ Hid (R = usdT s p q (m - k) a) ∧ StrAt wr w2.heap.size s a ∧ wr.heap[w.heap.size]? = some (.cells #[.int .i64 p, .int .i64 q] 28 (0, 0)) ∧ Below w.heap.size w wr) (fun i _ => m - (intOf i).toNat)
          case atStart => exact ⟨0, 0, Nat.zero_le _, rfl, by omega, by omega, E, hs0, x0, b1⟩
          case round =>
            clear hs0 x0 b1
            obtain ⟨k, a, hk, rfl, ha0, ha1, hT, hs, x0, hb⟩ := hrel
            have hz2 := hb.size
            by_cases hlt : k < m
            · rw [show m - k = (m - (k + 1)) + 1 by omega] at hT
              have c0 := box_cell x0 0 _ rfl
              have c1 := box_cell x0 1 _ rfl
              go_wp2_with fail
              refine (gauss_any _ _ _ _ _ _ hs ha0 ha1 HC.out).mono ?_
              rintro e w4 ⟨hyes, hno, hch⟩
              replace x0 := box_chg x0 hch (.inl (by omega))
              replace hb := hch.below hb (by omega) hz2
              clear hch hs c0 c1
              cases hM : gauM s p q a with
              | none =>
                obtain ⟨z, a2, rfl, _⟩ := hno hM
                have E2 := Lib.hid (hT.out.trans (usdT_1 hM))
                clear hyes hno hM
                go_wp2
                go_ret2
                exact ⟨u_no E2.out, hb⟩
              | some r =>
                obtain ⟨v, a2⟩ := r
                obtain ⟨rfl, hs2⟩ := hyes v a2 hM
                have hv := gauM_bd HC.out hM ha0 ha1
                have hb20 := hv.2.2.1
                have hb21 := hv.2.2.2
                have E2 := Lib.hid (hT.out.trans (usdT_2 hM))
                clear hyes hno hM hv
                go_wp2
                go_roundw
                case rel => exact ⟨k + 1, a2, by omega, by go_num, hb20, hb21, E2, hs2, x0, hb⟩
                case measure => simp [intOf]; omega
            · obtain rfl : m = k := by omega
              have E2 : Hid (R = some a) := Lib.hid (by rw [hT.out, Nat.sub_self]; rfl)
              have d1 := box_cell hs 1 _ rfl
              clear hT
              go_wp2
              go_ret2
              exact ⟨u_yes E2.out, hb⟩

set_option maxRecDepth 100000 in
set_option maxHeartbeats 4000000 in
theorem specBitsUsed_law (p q s n : Int) (w : World) :
    Calls Try.prog 18 #[.agg #[.int .i64 p, .int .i64 q], .int .i64 s, .int .i64 n] w fun e w' => e = .returned (.tuple #[.int .i64 (oU (usdR p q s n)), .bool (bU (usdR p q s n))]) ∧ Below w.heap.size w w' := by
  have R1 := Lib.hid (usdR_1 (p := p) (q := q) (s := s) (n := n))
  have R2 := Lib.hid (usdR_2 (p := p) (q := q) (s := s) (n := n))
  have R3 := Lib.hid (usdR_3 (p := p) (q := q) (s := s) (n := n))
  have R4 := Lib.hid (fun m => usdR_4 (p := p) (q := q) (s := s) (n := m))
  obtain ⟨R, hR⟩ : ∃ R, usdR p q s n = R := ⟨_, rfl⟩
  have HR := Lib.hid hR
  rw [hR] at R1 R2 R3
  rw [hR]
  clear hR
  have x0 := box_new w #[.int .i64 p, .int .i64 q] 28
  have b0 := below_new w (.cells #[.int .i64 p, .int .i64 q] 28)
  go_enter Try.func18, Try.ntmps18
  go_wp2_with fail
  generalize w.alloc (.cells #[.int .i64 p, .int .i64 q] 28) = w0 at *
  refine (ySigma_any _ _ _).mono ?_
  rintro e w2 ⟨rfl, b2⟩
  replace x0 := box_below x0 b2
  replace b0 := b0.trans (b2.mono b0.size)
  clear b2
  cases hC : sigmaB p q
  · have E := Lib.hid (R1.out hC)
    clear hC R1 R2 R3 R4 HR
    go_wp2
    go_ret2
    exact ⟨u_no E.out, b0⟩
  · have HC := Lib.hid hC
    clear hC R1
    go_wp2_with fail
    refine (hDigest_any _ _ _ [s] _ (ints_one rfl) (by omega)).mono ?_
    rintro e w3 ⟨rfl, rfl⟩
    rw [allR_one]
    have b3 := below_new w2 (.cells #[.int .i64 s] 3)
    replace x0 := box_below x0 b3
    replace b0 := b0.trans (b3.mono b0.size)
    clear b3
    generalize w2.alloc (.cells #[.int .i64 s] 3) = w3 at *
    cases hS : inR s 0 4611686016279904236
    · have E := Lib.hid (R2.out hS)
      clear hS R2 R3 R4 HR
      go_wp2
      go_ret2
      exact ⟨u_no E.out, b0⟩
    · have HS := Lib.hid hS
      clear hS R2
      go_wp2_with fail
      refine (l1In_any _ _ _ _).mono ?_
      rintro e w4 ⟨rfl, rfl⟩
      cases hN : inR n 0 40
      · have E := Lib.hid (R3.out hN)
        clear hN R3 R4 HR
        go_wp2
        go_ret2
        exact ⟨u_no E.out, b0⟩
      · have hn := inR_of hN
        obtain ⟨m, rfl⟩ := Int.eq_ofNat_of_zero_le hn.1
        have hm : m ≤ 40 := by omega
        have E := Lib.hid (HR.out.symm.trans (R4.out m HC.out HS.out hN))
        clear hN hn R3 R4 HR
        have hz := b0.size
        have hlx := lt_of_block x0
        go_wp2_with fail
        refine (kOpen_any _ _ _).mono ?_
        rintro e w4 ⟨g, rfl, hr, hg, b4⟩
        replace x0 := box_below x0 b4
        replace b0 := b0.trans (b4.mono b0.size)
        have hgg := hr.lt
        clear b4
        go_wp2_with fail
        go_loopw [2] (fun i wr => ∃ (k : Nat) (a : Int) (ok : Bool), k ≤ m ∧ i = .int .i64 k ∧ 0 ≤ a ∧ a ≤ 1000000 ∧ Hid ((ok = true → R = usdT s p q k a) ∧ (ok = false → R = none)) ∧ RdrAt wr g s a ok ∧ wr.heap[w.heap.size]? = some (.cells #[.int .i64 p, .int .i64 q] 28 (0, 0)) ∧ Below w.heap.size w wr) (fun i _ => (intOf i).toNat)
        case atStart => exact ⟨m, 0, true, Nat.le_refl _, rfl, by omega, by omega, Lib.hid ⟨fun _ => E.out, fun h9 => (by cases h9)⟩, hr, x0, b0⟩
        case round =>
          clear hr x0 b0
          obtain ⟨k, a, ok, hk, rfl, ha0, ha1, hT, hs, x0, hb⟩ := hrel
          have hz2 := hb.size
          have c2 := box_cell hs 2 _ rfl
          have d1 := box_cell hs 1 _ rfl
          cases ok
          · have E2 := Lib.hid (hT.out.2 rfl)
            clear hT
            by_cases h0 : 0 < k
            · go_wp2
              go_ret2
              exact ⟨u_no E2.out, hb⟩
            · go_wp2
              go_ret2
              exact ⟨u_no E2.out, hb⟩
          · replace hT := Lib.hid (hT.out.1 rfl)
            by_cases h0 : 0 < k
            · obtain ⟨j, rfl⟩ : ∃ j, k = j + 1 := ⟨k - 1, by omega⟩
              have c0 := box_cell x0 0 _ rfl
              have c1 := box_cell x0 1 _ rfl
              go_wp2_with fail
              refine (kgauss_any _ _ _ _ _ _ hs ha0 ha1 HC.out).mono ?_
              rintro e w5 ⟨hyes, hno, hch⟩
              replace x0 := box_chg x0 hch (.inl (by omega))
              replace hb := hch.below hb (by omega) hz2
              clear hch hs c0 c1 c2 d1
              cases hM : gauM s p q a with
              | none =>
                obtain ⟨z, rfl, hv0, hv1, a2, hs2, hb20, hb21⟩ := hno hM
                have E2 := Lib.hid (hT.out.trans (usdT_1 hM))
                clear hyes hno hM
                go_wp2
                go_roundw
                case rel => exact ⟨j, a2, false, by omega, by go_num, hb20, hb21, Lib.hid ⟨fun h9 => (by cases h9), fun _ => E2.out⟩, hs2, x0, hb⟩
                case measure => simp [intOf]
              | some r =>
                obtain ⟨v, a2⟩ := r
                obtain ⟨rfl, hs2⟩ := hyes v a2 hM
                have hv := gauM_bd HC.out hM ha0 ha1
                have hb20 := hv.2.2.1
                have hb21 := hv.2.2.2
                have E2 := Lib.hid (hT.out.trans (usdT_2 hM))
                clear hyes hno hM hv
                go_wp2
                go_roundw
                case rel => exact ⟨j, a2, true, by omega, by go_num, hb20, hb21, Lib.hid ⟨fun _ => E2.out, fun h9 => (by cases h9)⟩, hs2, x0, hb⟩
                case measure => simp [intOf]
            · obtain rfl : k = 0 := by omega
              have E2 : Hid (R = some a) := Lib.hid hT.out
              clear hT
              go_wp2
              go_ret2
              exact ⟨u_yes E2.out, hb⟩
end Go.Proofs.Ytfkdmddfadkjoaa
