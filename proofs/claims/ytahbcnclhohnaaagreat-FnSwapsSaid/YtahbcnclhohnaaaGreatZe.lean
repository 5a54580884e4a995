/- Several small texts in one: Data, Data2, Data3. -/
import Derived.Test.YtahbcnclhohnaaaGreatZd
namespace Go.Proofs.YtahbcnclhohnaaaGreat

section
open Go.RowKit

def valsB (vs : List (ByteArray × Int)) (xs : List Int) : Bool := decide (xs.length = vs.length) && allTo (fun i => inR (xs[i]?.getD 0) 0 (vL vs i - 1)) vs.length
theorem valsB_len {vs : List (ByteArray × Int)} {xs : List Int} (h : xs.length ≠ vs.length) : valsB vs xs = false := by simp [valsB, h]
theorem valsB_no {vs : List (ByteArray × Int)} {xs : List Int} {n k : Nat} (hl : vs.length = n) (hk : k < n) (h : ¬ (0 ≤ xs[k]?.getD 0 ∧ xs[k]?.getD 0 ≤ vL vs k - 1)) : valsB vs xs = false := by
  unfold valsB; rw [allTo_no (i := k) (by omega) (inR_no h), Bool.and_false]
theorem valsB_yes {vs : List (ByteArray × Int)} {xs : List Int} {n : Nat} (hl : vs.length = n) (hx : xs.length = n) (h : ∀ i, i < n → 0 ≤ xs[i]?.getD 0 ∧ xs[i]?.getD 0 ≤ vL vs i - 1) : valsB vs xs = true := by
  unfold valsB
  rw [allTo_yes (fun i hi => inR_yes (h i (by omega)).1 (h i (by omega)).2), decide_eq_true (by omega)]; rfl
theorem valsB_of {vs : List (ByteArray × Int)} {xs : List Int} (h : valsB vs xs = true) : xs.length = vs.length ∧ ∀ i, i < vs.length → 0 ≤ xs[i]?.getD 0 ∧ xs[i]?.getD 0 ≤ vL vs i - 1 := by
  simp only [valsB, Bool.and_eq_true, decide_eq_true_eq] at h
  exact ⟨h.1, fun i hi => inR_of (allTo_of h.2 i hi)⟩

set_option maxHeartbeats 800000 in
theorem areValues_any (A V : Option Addr) (n c m d : Nat) (vs : List (ByteArray × Int)) (xs : List Int) (w : World) (hx : VarsR w A n vs) (hy : Ints w V m xs) (hn : n ≤ 1099511627776) (hm : m ≤ 1099511627776) :
    Calls Tryz.prog 98 #[.slice A n c, .slice V m d] w fun e w' => e = .returned (.bool (valsB vs xs)) ∧ w = w' := by
  have hl := Lib.hid hx.1
  have hm' := Lib.hid hy.1
  by_cases hne : m = n
  · subst hne
    go_enter Tryz.func98, Tryz.ntmps98
    go_wp2
    go_loop [14] (fun i => ∃ k : Nat, k ≤ m ∧ i = .int .i64 k ∧ Hid (∀ t, t < k → 0 ≤ xs[t]?.getD 0 ∧ xs[t]?.getD 0 ≤ vL vs t - 1)) (fun i => m - (intOf i).toNat)
    case atStart => exact ⟨0, Nat.zero_le _, rfl, Lib.hid fun t ht => absurd ht (by omega)⟩
    case round =>
      obtain ⟨k, hk, rfl, hall⟩ := hrel
      by_cases hlt : k < m
      · obtain ⟨ad, rfl, _, hc'⟩ := hx.at_ hlt
        obtain ⟨ad2, rfl, hd⟩ := hy.at_ hlt
        have N0 := Lib.hid (fun h => valsB_no (xs := xs) hl.out hlt h)
        have Y0 := Lib.hid (fun (h : 0 ≤ xs[k]?.getD 0 ∧ xs[k]?.getD 0 ≤ vL vs k - 1) => (show ∀ t, t < k + 1 → 0 ≤ xs[t]?.getD 0 ∧ xs[t]?.getD 0 ≤ vL vs t - 1 from fun t ht => by
          rcases Nat.lt_or_ge t k with h' | h'
          · exact hall.out t h'
          · obtain rfl : t = k := by omega
            exact h))
        clear hx hy
        obtain ⟨x, hxe⟩ : ∃ x, vL vs k = x := ⟨_, rfl⟩
        obtain ⟨y, hye⟩ : ∃ y, xs[k]?.getD 0 = y := ⟨_, rfl⟩
        rw [hxe] at hc' N0 Y0
        rw [hye] at hd N0 Y0
        clear hxe hye
        by_cases h0 : y < 0
        · have R := Lib.hid (N0.out (by omega)).symm
          go_wp2
          go_ret
          exact ⟨ret_bool R.out, rfl⟩
        by_cases h1 : x ≤ y
        · have R := Lib.hid (N0.out (by omega)).symm
          go_wp2
          go_ret
          exact ⟨ret_bool R.out, rfl⟩
        have R := Lib.hid (Y0.out (by omega))
        go_wp2
        go_round
        case rel => exact ⟨k + 1, by omega, by go_num, R⟩
        case measure => simp [intOf]; omega
      · obtain rfl : k = m := by omega
        have R := Lib.hid (valsB_yes hl.out hm'.out hall.out).symm
        go_wp2
        go_ret
        exact ⟨ret_bool R.out, rfl⟩
  · have R := Lib.hid (valsB_len (vs := vs) (xs := xs) (by rw [hl.out, hm'.out]; exact hne)).symm
    go_enter Tryz.func98, Tryz.ntmps98
    go_wp2
    go_ret
    exact ⟨ret_bool R.out, rfl⟩

set_option maxHeartbeats 800000 in
theorem sFits_any (A V : Option Addr) (n c m d : Nat) (vs : List (ByteArray × Int)) (xs : List Int) (w : World) (hx : VarsR w A n vs) (hy : Ints w V m xs) (hL : ∀ j, j < n → 2 ≤ vL vs j ∧ vL vs j ≤ 8) (hn : n ≤ 1099511627776) (hm : m ≤ 1099511627776) :
    Calls Tryz.prog 115 #[.slice A n c, .slice V m d] w fun e w' => e = .returned (.bool (valsB vs xs)) ∧ Below w.heap.size w w' := by
  have hl := Lib.hid hx.1
  have hm' := Lib.hid hy.1
  by_cases hne : m = n
  · subst hne
    go_enter Tryz.func115, Tryz.ntmps115
    go_wp2
    go_loopw [14] (fun i wr => ∃ k : Nat, k ≤ m ∧ i = .int .i64 k ∧ Hid (∀ t, t < k → 0 ≤ xs[t]?.getD 0 ∧ xs[t]?.getD 0 ≤ vL vs t - 1) ∧ Below w.heap.size w wr) (fun i _ => m - (intOf i).toNat)
    case atStart => exact ⟨0, Nat.zero_le _, rfl, Lib.hid fun t ht => absurd ht (by omega), Below.refl _ _⟩
    case round =>
      obtain ⟨k, hk, rfl, hall, hbw⟩ := hrel
      by_cases hlt : k < m
      · obtain ⟨ad, rfl, hc, hc'⟩ := (hx.below hbw).at_ hlt
        obtain ⟨ad2, rfl, hd⟩ := (hy.below hbw).at_ hlt
        have hLk := hL k hlt
        have N0 := Lib.hid (fun h => valsB_no (xs := xs) hl.out hlt h)
        have Y0 := Lib.hid (fun (h : 0 ≤ xs[k]?.getD 0 ∧ xs[k]?.getD 0 ≤ vL vs k - 1) => (show ∀ t, t < k + 1 → 0 ≤ xs[t]?.getD 0 ∧ xs[t]?.getD 0 ≤ vL vs t - 1 from fun t ht => by
          rcases Nat.lt_or_ge t k with h' | h'
          · exact hall.out t h'
          · obtain rfl : t = k := by omega
            exact h))
        clear hx hy hL
        obtain ⟨s, hse⟩ : ∃ s, vN vs k = s := ⟨_, rfl⟩
        obtain ⟨x, hxe⟩ : ∃ x, vL vs k = x := ⟨_, rfl⟩
        obtain ⟨y, hye⟩ : ∃ y, xs[k]?.getD 0 = y := ⟨_, rfl⟩
        rw [hse] at hc
        rw [hxe] at hc' N0 Y0 hLk
        rw [hye] at hd N0 Y0
        clear hxe hye hse
        have hb2 := hbw.alloc hbw.size (.cells #[.string s, .int .i64 x] 105)
        have hw1 : IntKind.i64.wrap (x - 1) = x - 1 := IntWalk.i64_in _ (by omega)
        have ld := block_lt_of_cell hd
        have hd2 := ((below_new wr (.cells #[.string s, .int .i64 x] 105)).cell ld).trans hd
        obtain ⟨b, hB⟩ : ∃ b, inR y 0 (x - 1) = b := ⟨_, rfl⟩
        have HB := Lib.hid hB
        clear hB
        go_wp2_with fail
        have c1 : ∀ W : World, Calls Tryz.prog 29 #[.int .i64 y, .int .i64 0, .int .i64 (x - 1)] W fun e w' => e = .returned (.bool b) ∧ w' = W := fun W => (l1In_any _ _ _ W).mono fun e w' ⟨h1, h2⟩ => ⟨by rw [h1, HB.out], h2.symm⟩
        go_quiet ((go_at_call 29; exact Calls.quiet_of_same (c1 _)))
        cases b
        · have R := Lib.hid (N0.out (fun h => by have := HB.out; rw [inR_yes h.1 h.2] at this; cases this)).symm
          go_wp2
          go_ret
          exact ⟨ret_bool R.out, below_drewN hb2 _⟩
        · have R := Lib.hid (Y0.out (inR_of HB.out))
          go_wp2
          go_roundw
          case rel => exact ⟨k + 1, by omega, by go_num, R, below_drewN hb2 _⟩
          case measure => simp [intOf]; omega
      · obtain rfl : k = m := by omega
        have R := Lib.hid (valsB_yes hl.out hm'.out hall.out).symm
        go_wp2
        go_ret
        exact ⟨ret_bool R.out, hbw⟩
  · have R := Lib.hid (valsB_len (vs := vs) (xs := xs) (by rw [hl.out, hm'.out]; exact hne)).symm
    go_enter Tryz.func115, Tryz.ntmps115
    go_wp2
    go_ret
    exact ⟨ret_bool R.out, Below.refl _ _⟩

/-- A record fits a schema. -/
def recB (vs : List (ByteArray × Int)) (x y : Int) (xs : List Int) : Bool := inR x 0 29 && (inR y 0 999 && valsB vs xs)

set_option maxHeartbeats 800000 in
theorem isRecord_any (A V : Option Addr) (n c m d : Nat) (x y : Int) (vs : List (ByteArray × Int)) (xs : List Int) (w : World) (hx : VarsR w A n vs) (hy : Ints w V m xs) (hn : n ≤ 1099511627776) (hm : m ≤ 1099511627776) :
    Calls Tryz.prog 69 #[.slice A n c, .agg #[.int .i64 x, .int .i64 y, .slice V m d]] w fun e w' => e = .returned (.bool (recB vs x y xs)) ∧ Below w.heap.size w w' := by
  have b0 := below_new w (.cells #[.int .i64 x, .int .i64 y, .slice V m d] 79)
  have HX := Lib.hid (hx.below b0)
  have HY := Lib.hid (hy.below b0)
  clear hx hy
  by_cases h1 : x < 0
  · have R := Lib.hid (show false = recB vs x y xs by unfold recB; rw [inR_no (by omega)]; rfl)
    go_enter Tryz.func69, Tryz.ntmps69
    go_wp2
    go_ret
    exact ⟨ret_bool R.out, b0⟩
  by_cases h2 : 29 < x
  · have R := Lib.hid (show false = recB vs x y xs by unfold recB; rw [inR_no (by omega)]; rfl)
    go_enter Tryz.func69, Tryz.ntmps69
    go_wp2
    go_ret
    exact ⟨ret_bool R.out, b0⟩
  by_cases h3 : y < 0
  · have R := Lib.hid (show false = recB vs x y xs by unfold recB; rw [inR_no (n := y) (by omega), Bool.false_and, Bool.and_false])
    go_enter Tryz.func69, Tryz.ntmps69
    go_wp2
    go_ret
    exact ⟨ret_bool R.out, b0⟩
  by_cases h4 : 999 < y
  · have R := Lib.hid (show false = recB vs x y xs by unfold recB; rw [inR_no (n := y) (by omega), Bool.false_and, Bool.and_false])
    go_enter Tryz.func69, Tryz.ntmps69
    go_wp2
    go_ret
    exact ⟨ret_bool R.out, b0⟩
  have R := Lib.hid (show valsB vs xs = recB vs x y xs by unfold recB; rw [inR_yes (n := x) (by omega) (by omega), inR_yes (n := y) (by omega) (by omega)]; rfl)
  go_enter Tryz.func69, Tryz.ntmps69
  go_wp2_with (go_at_call 98; refine (areValues_any _ _ n _ m _ vs xs _ HX.out HY.out hn hm).mono ?_; rintro e w2 ⟨rfl, rfl⟩; rw [R.out])
  go_ret
  exact ⟨rfl, b0⟩

set_option maxHeartbeats 800000 in
theorem rGood_any (A V : Option Addr) (n c m d : Nat) (x y : Int) (vs : List (ByteArray × Int)) (xs : List Int) (w : World) (hx : VarsR w A n vs) (hy : Ints w V m xs) (hL : ∀ j, j < n → 2 ≤ vL vs j ∧ vL vs j ≤ 8) (hn : n ≤ 1099511627776) (hm : m ≤ 1099511627776) :
    Calls Tryz.prog 96 #[.slice A n c, .agg #[.int .i64 x, .int .i64 y, .slice V m d]] w fun e w' => e = .returned (.bool (recB vs x y xs)) ∧ Below w.heap.size w w' := by
  have b0 := below_new w (.cells #[.int .i64 x, .int .i64 y, .slice V m d] 79)
  have HX := Lib.hid (hx.below b0)
  have HY := Lib.hid (hy.below b0)
  clear hx hy
  cases h1 : inR x 0 29
  · have H1 := Lib.hid h1
    have R := Lib.hid (show false = recB vs x y xs by unfold recB; rw [h1]; rfl)
    clear h1
    go_enter Tryz.func96, Tryz.ntmps96
    go_wp2_with (go_at_call 29; refine (l1In_any _ _ _ _).mono ?_; rintro e w2 ⟨rfl, rfl⟩; rw [H1.out])
    go_ret
    exact ⟨ret_bool R.out, b0⟩
  cases h2 : inR y 0 999
  · have H1 := Lib.hid h1
    have H2 := Lib.hid h2
    have R := Lib.hid (show false = recB vs x y xs by unfold recB; rw [h1, h2]; rfl)
    clear h1 h2
    go_enter Tryz.func96, Tryz.ntmps96
    go_wp2_with fail
    refine (l1In_any _ _ _ _).mono ?_
    rintro e w2 ⟨rfl, rfl⟩
    rw [H1.out]
    go_wp2_with fail
    refine (l1In_any _ _ _ _).mono ?_
    rintro e w2 ⟨rfl, rfl⟩
    rw [H2.out]
    go_wp2
    go_ret
    exact ⟨ret_bool R.out, b0⟩
  have H1 := Lib.hid h1
  have H2 := Lib.hid h2
  have R := Lib.hid (show valsB vs xs = recB vs x y xs by unfold recB; rw [h1, h2]; rfl)
  clear h1 h2
  go_enter Tryz.func96, Tryz.ntmps96
  go_wp2_with fail
  refine (l1In_any _ _ _ _).mono ?_
  rintro e w2 ⟨rfl, rfl⟩
  rw [H1.out]
  go_wp2_with fail
  refine (l1In_any _ _ _ _).mono ?_
  rintro e w2 ⟨rfl, rfl⟩
  rw [H2.out]
  go_wp2_with fail
  refine (sFits_any _ _ n _ m _ vs xs _ HX.out HY.out hL hn hm).mono ?_
  rintro e w2 ⟨rfl, hb2⟩
  rw [R.out]
  have B2 := Lib.hid (b0.trans (hb2.mono b0.size))
  go_wp2
  go_ret
  exact ⟨rfl, B2.out⟩
end

section
open Go.RowKit

/-- A schema, data, a list of ints as an argument. -/
structure SchR (w : World) (A : Option Addr) (n c : Nat) (vs : List (ByteArray × Int)) : Prop where
  v : VarsR w A n vs
  s : ∀ j, j < n → (vN vs j).size ≤ 1099511627776
  bd : n ≤ 1099511627776
  cp : n ≤ c
structure DatR (w : World) (A : Option Addr) (n : Nat) (rs : List RecD) : Prop where
  r : RecsR w A n rs
  s : ∀ j, j < n → (rV rs j).length ≤ 1099511627776
  bd : n ≤ 1099511627776
structure IntR (w : World) (A : Option Addr) (n : Nat) (xs : List Int) : Prop where
  i : Ints w A n xs
  bd : n ≤ 1099511627776
section
variable {w w' : World} {A : Option Addr} {n c : Nat} {vs : List (ByteArray × Int)} {rs : List RecD} {xs : List Int}
theorem SchR.below (h : SchR w A n c vs) (hb : Below w.heap.size w w') : SchR w' A n c vs := ⟨h.v.below hb, h.s, h.bd, h.cp⟩
theorem DatR.below (h : DatR w A n rs) (hb : Below w.heap.size w w') : DatR w' A n rs := ⟨h.r.below hb, h.s, h.bd⟩
theorem IntR.below (h : IntR w A n xs) (hb : Below w.heap.size w w') : IntR w' A n xs := ⟨h.i.below hb, h.bd⟩
theorem SchR.len (h : SchR w A n c vs) : vs.length = n := h.v.1
theorem DatR.len (h : DatR w A n rs) : rs.length = n := h.r.1
theorem IntR.len (h : IntR w A n xs) : xs.length = n := h.i.1
theorem SchR.lev (h : SchR w A n c vs) (hs : schB vs = true) : ∀ j, j < n → 2 ≤ vL vs j ∧ vL vs j ≤ 8 := fun j hj => (schB_of hs).2 j (by rw [h.len]; exact hj)
theorem SchR.six (h : SchR w A n c vs) (hs : schB vs = true) : 1 ≤ n ∧ n ≤ 6 := by have := (schB_of hs).1; rw [h.len] at this; exact this
theorem OwnI.intR {lo hi : Nat} (h : OwnI w lo hi A n c xs) : IntR w A n xs := ⟨h.ints, h.small⟩
end

def recOk (vs : List (ByteArray × Int)) (rs : List RecD) (i : Nat) : Bool := recB vs (rA rs i) (rH rs i) (rV rs i)
def dataB (vs : List (ByteArray × Int)) (rs : List RecD) : Bool := decide (rs.length ≤ 40) && allTo (recOk vs rs) rs.length
theorem dataB_len {vs : List (ByteArray × Int)} {rs : List RecD} (h : ¬ rs.length ≤ 40) : dataB vs rs = false := by simp [dataB, h]
theorem dataB_no {vs : List (ByteArray × Int)} {rs : List RecD} {n k : Nat} (hl : rs.length = n) (hk : k < n) (h : recOk vs rs k = false) : dataB vs rs = false := by
  unfold dataB; rw [allTo_no (i := k) (by omega) h, Bool.and_false]
theorem dataB_eq {vs : List (ByteArray × Int)} {rs : List RecD} {n : Nat} (hl : rs.length = n) (h : ∀ i, i < n → recOk vs rs i = true) : dataB vs rs = decide (n ≤ 40) := by
  unfold dataB; rw [allTo_yes (by rw [hl]; exact h), Bool.and_true, hl]
theorem dataB_of {vs : List (ByteArray × Int)} {rs : List RecD} (h : dataB vs rs = true) : rs.length ≤ 40 ∧ ∀ i, i < rs.length → recOk vs rs i = true := by
  simp only [dataB, Bool.and_eq_true, decide_eq_true_eq] at h
  exact ⟨h.1, allTo_of h.2⟩

theorem all_succ {p : Nat → Prop} {k : Nat} (h : ∀ t, t < k → p t) (hk : p k) : ∀ t, t < k + 1 → p t := fun t ht => by
  rcases Nat.lt_or_ge t k with h' | h'
  · exact h t h'
  · obtain rfl : t = k := by omega
    exact hk

set_option maxHeartbeats 800000 in
theorem isData_any (A B : Option Addr) (n c m d : Nat) (vs : List (ByteArray × Int)) (rs : List RecD) (w : World) (hx : SchR w A n c vs) (hy : DatR w B m rs) :
    Calls Tryz.prog 39 #[.slice A n c, .slice B m d] w fun e w' => e = .returned (.bool (dataB vs rs)) ∧ Below w.heap.size w w' := by
  have hn := hx.bd
  have hm := hy.bd
  have hl := Lib.hid hy.len
  by_cases h40 : m ≤ 40
  · go_enter Tryz.func39, Tryz.ntmps39
    go_wp2
    go_loopw [12] (fun i wr => ∃ k : Nat, k ≤ m ∧ i = .int .i64 k ∧ Hid (∀ t, t < k → recOk vs rs t = true) ∧ Below w.heap.size w wr) (fun i _ => m - (intOf i).toNat)
    case atStart => exact ⟨0, Nat.zero_le _, rfl, Lib.hid fun t ht => absurd ht (by omega), Below.refl _ _⟩
    case round =>
      obtain ⟨k, hk, rfl, hall, hbw⟩ := hrel
      by_cases hlt : k < m
      · obtain ⟨ad, rfl, c0, c1, V, l, cc, c2, hv⟩ := (hy.below hbw).r.at_ hlt
        have N0 := Lib.hid (fun h => dataB_no (vs := vs) hl.out hlt h)
        have Y0 := Lib.hid (fun h => all_succ (p := fun t => recOk vs rs t = true) hall.out h)
        have hv1 := Lib.hid hv
        have hlv : l ≤ 1099511627776 := by have := hy.s k hlt; rw [hv.1] at this; exact this
        have hX := Lib.hid (hx.below hbw)
        clear hx hy hv
        rw [show recOk vs rs k = recB vs (rA rs k) (rH rs k) (rV rs k) from rfl] at N0 Y0
        generalize rA rs k = x at *
        generalize rH rs k = y at *
        generalize rV rs k = xs at *
        have b1 := below_new wr (.cells #[.int .i64 x, .int .i64 y, .slice V l cc] 79)
        have hb2 := hbw.trans (b1.mono hbw.size)
        have HX := Lib.hid (hX.out.v.below b1)
        have HV := Lib.hid (hv1.out.below b1)
        have HB := Lib.hid hb2
        have hsz := hb2.size
        clear b1 hb2
        cases hB : recB vs x y xs
        · have R := Lib.hid (N0.out hB).symm
          have H := Lib.hid hB
          clear hB
          go_wp2_with (go_at_call 69; refine (isRecord_any _ _ n _ l _ x y vs xs _ HX.out HV.out hn hlv).mono ?_; rintro e w2 ⟨rfl, hb3⟩; rw [H.out]; have hb4 := Lib.hid (HB.out.trans (hb3.mono hsz)); clear hb3)
          go_ret
          exact ⟨ret_bool R.out, hb4.out⟩
        · have R := Lib.hid (Y0.out hB)
          have H := Lib.hid hB
          clear hB
          go_wp2_with (go_at_call 69; refine (isRecord_any _ _ n _ l _ x y vs xs _ HX.out HV.out hn hlv).mono ?_; rintro e w2 ⟨rfl, hb3⟩; rw [H.out]; have hb4 := Lib.hid (HB.out.trans (hb3.mono hsz)); clear hb3)
          go_roundw
          case rel => exact ⟨k + 1, by omega, by go_num, R, hb4.out⟩
          case measure => simp [intOf]; omega
      · obtain rfl : k = m := by omega
        have R := Lib.hid (show true = dataB vs rs by rw [dataB_eq hl.out hall.out, decide_eq_true h40])
        go_wp2
        go_ret
        exact ⟨ret_bool R.out, hbw⟩
  · have R := Lib.hid (dataB_len (vs := vs) (by rw [hl.out]; exact h40)).symm
    go_enter Tryz.func39, Tryz.ntmps39
    go_wp2
    go_ret
    exact ⟨ret_bool R.out, Below.refl _ _⟩

set_option maxHeartbeats 800000 in
theorem dGood_any (A B : Option Addr) (n c m d : Nat) (vs : List (ByteArray × Int)) (rs : List RecD) (w : World) (hx : SchR w A n c vs) (hy : DatR w B m rs) (hL : ∀ j, j < n → 2 ≤ vL vs j ∧ vL vs j ≤ 8) :
    Calls Tryz.prog 65 #[.slice A n c, .slice B m d] w fun e w' => e = .returned (.bool (dataB vs rs)) ∧ Below w.heap.size w w' := by
  have hn := hx.bd
  have hm := hy.bd
  have hl := Lib.hid hy.len
  have hLL := Lib.hid hL
  clear hL
  go_enter Tryz.func65, Tryz.ntmps65
  go_wp2
  go_loopw [9] (fun i wr => ∃ k : Nat, k ≤ m ∧ i = .int .i64 k ∧ Hid (∀ t, t < k → recOk vs rs t = true) ∧ Below w.heap.size w wr) (fun i _ => m - (intOf i).toNat)
  case atStart => exact ⟨0, Nat.zero_le _, rfl, Lib.hid fun t ht => absurd ht (by omega), Below.refl _ _⟩
  case round =>
    obtain ⟨k, hk, rfl, hall, hbw⟩ := hrel
    by_cases hlt : k < m
    · obtain ⟨ad, rfl, c0, c1, V, l, cc, c2, hv⟩ := (hy.below hbw).r.at_ hlt
      have N0 := Lib.hid (fun h => dataB_no (vs := vs) hl.out hlt h)
      have Y0 := Lib.hid (fun h => all_succ (p := fun t => recOk vs rs t = true) hall.out h)
      have hv1 := Lib.hid hv
      have hlv : l ≤ 1099511627776 := by have := hy.s k hlt; rw [hv.1] at this; exact this
      have hX := Lib.hid (hx.below hbw)
      clear hx hy hv
      rw [show recOk vs rs k = recB vs (rA rs k) (rH rs k) (rV rs k) from rfl] at N0 Y0
      generalize rA rs k = x at *
      generalize rH rs k = y at *
      generalize rV rs k = xs at *
      have b1 := below_new wr (.cells #[.int .i64 x, .int .i64 y, .slice V l cc] 79)
      have hb2 := hbw.trans (b1.mono hbw.size)
      have HX := Lib.hid (hX.out.v.below b1)
      have HV := Lib.hid (hv1.out.below b1)
      have HB := Lib.hid hb2
      have hsz := hb2.size
      clear b1 hb2
      cases hB : recB vs x y xs
      · have R := Lib.hid (N0.out hB).symm
        have H := Lib.hid hB
        clear hB
        go_wp2_with (go_at_call 96; refine (rGood_any _ _ n _ l _ x y vs xs _ HX.out HV.out hLL.out hn hlv).mono ?_; rintro e w2 ⟨rfl, hb3⟩; rw [H.out]; have hb4 := Lib.hid (HB.out.trans (hb3.mono hsz)); clear hb3)
        go_ret
        exact ⟨ret_bool R.out, hb4.out⟩
      · have R := Lib.hid (Y0.out hB)
        have H := Lib.hid hB
        clear hB
        go_wp2_with (go_at_call 96; refine (rGood_any _ _ n _ l _ x y vs xs _ HX.out HV.out hLL.out hn hlv).mono ?_; rintro e w2 ⟨rfl, hb3⟩; rw [H.out]; have hb4 := Lib.hid (HB.out.trans (hb3.mono hsz)); clear hb3)
        go_roundw
        case rel => exact ⟨k + 1, by omega, by go_num, R, hb4.out⟩
        case measure => simp [intOf]; omega
    · obtain rfl : k = m := by omega
      have R := Lib.hid (show decide ((k : Int) ≤ 40) = dataB vs rs by rw [dataB_eq hl.out hall.out]; exact decide_eq_decide.2 (by omega))
      go_wp2
      go_ret
      exact ⟨ret_bool R.out, hbw⟩

/-- A list of variables' numbers below n, rising. -/
def risOk (xs : List Int) (n : Nat) (i : Nat) : Bool := inR (xs[i]?.getD 0) 0 ((n : Int) - 1) && (decide (i = 0) || decide (xs[i - 1]?.getD 0 < xs[i]?.getD 0))
def risB (xs : List Int) (n : Nat) : Bool := allTo (risOk xs n) xs.length
theorem risOk_yes {xs : List Int} {n i : Nat} (h1 : 0 ≤ xs[i]?.getD 0) (h2 : xs[i]?.getD 0 ≤ (n : Int) - 1) (h3 : 0 < i → xs[i - 1]?.getD 0 < xs[i]?.getD 0) : risOk xs n i = true := by
  unfold risOk
  rw [inR_yes h1 h2]
  rcases Nat.eq_zero_or_pos i with h | h
  · simp [h]
  · simp [h3 h]
theorem risOk_no {xs : List Int} {n i : Nat} (h : ¬ (0 ≤ xs[i]?.getD 0 ∧ xs[i]?.getD 0 ≤ (n : Int) - 1)) : risOk xs n i = false := by
  unfold risOk; rw [inR_no h]; rfl
theorem risOk_no2 {xs : List Int} {n i : Nat} (h0 : 0 < i) (h : ¬ xs[i - 1]?.getD 0 < xs[i]?.getD 0) : risOk xs n i = false := by
  unfold risOk; rw [decide_eq_false h, decide_eq_false (by omega)]; simp
theorem risB_no {xs : List Int} {n m k : Nat} (hl : xs.length = m) (hk : k < m) (h : risOk xs n k = false) : risB xs n = false := allTo_no (i := k) (by omega) h
theorem risB_of {xs : List Int} {n : Nat} (h : risB xs n = true) : ∀ i, i < xs.length → 0 ≤ xs[i]?.getD 0 ∧ xs[i]?.getD 0 ≤ (n : Int) - 1 := fun i hi => by
  have := allTo_of h i hi
  simp only [risOk, Bool.and_eq_true] at this
  exact inR_of this.1
theorem risB_lt {xs : List Int} {n : Nat} (h : risB xs n = true) {i : Nat} (h0 : 0 < i) (hi : i < xs.length) : xs[i - 1]?.getD 0 < xs[i]?.getD 0 := by
  have := allTo_of h i hi
  simp only [risOk, Bool.and_eq_true, Bool.or_eq_true, decide_eq_true_eq] at this
  rcases this.2 with h1 | h1
  · omega
  · exact h1
theorem risB_ge {xs : List Int} {n : Nat} (h : risB xs n = true) : ∀ i, i < xs.length → (i : Int) ≤ xs[i]?.getD 0 := by
  intro i
  induction i with
  | zero => intro hi; have := risB_of h 0 hi; omega
  | succ i ih => intro hi; have := ih (by omega); have := risB_lt h (i := i + 1) (by omega) hi; simp only [Nat.add_sub_cancel] at this; omega
theorem risB_len {xs : List Int} {n : Nat} (h : risB xs n = true) : xs.length ≤ n := by
  rcases Nat.eq_zero_or_pos xs.length with h0 | h0
  · omega
  · have h1 := risB_ge h (xs.length - 1) (by omega)
    have h2 := risB_of h (xs.length - 1) (by omega)
    omega

set_option maxHeartbeats 800000 in
theorem areVars_any (A V : Option Addr) (n c m d : Nat) (xs : List Int) (w : World) (_hn : n ≤ 1099511627776) (hy : IntR w V m xs) :
    Calls Tryz.prog 58 #[.slice A n c, .slice V m d] w fun e w' => e = .returned (.bool (risB xs n)) ∧ w = w' := by
  have hm := hy.bd
  have hl := Lib.hid hy.len
  go_enter Tryz.func58, Tryz.ntmps58
  go_wp2
  go_loop [5, 10] (fun b i => ∃ (k : Nat) (y : Int), k ≤ m ∧ i = .int .i64 k ∧ b = .int .i64 y ∧ -1 ≤ y ∧ Hid (∀ t, t < k → risOk xs n t = true) ∧ Hid ((k = 0 → y = -1) ∧ (0 < k → y = xs[k - 1]?.getD 0 ∧ 0 ≤ y))) (fun _ i => m - (intOf i).toNat)
  case atStart => exact ⟨0, -1, Nat.zero_le _, rfl, rfl, by omega, Lib.hid fun t ht => absurd ht (by omega), Lib.hid ⟨fun _ => rfl, fun h => absurd h (by omega)⟩⟩
  case round =>
    obtain ⟨k, y, hk, rfl, rfl, hy1, hall, hlast⟩ := hrel
    by_cases hlt : k < m
    · obtain ⟨ad, rfl, hd⟩ := hy.i.at_ hlt
      have N0 := Lib.hid (fun h => risB_no (xs := xs) (n := n) hl.out hlt h)
      have Y0 := Lib.hid (fun h => all_succ (p := fun t => risOk xs n t = true) hall.out h)
      have Z0 := Lib.hid (fun (x : Int) (h : xs[k]?.getD 0 = x) => (show (x ≤ y → risOk xs n k = false) ∧ ((n : Int) ≤ x → risOk xs n k = false) ∧ (y < x → x < n → risOk xs n k = true) from ⟨fun h1 => by
          rcases Nat.eq_zero_or_pos k with h0 | h0
          · have := hlast.out.1 h0
            exact risOk_no (by omega)
          · have := hlast.out.2 h0
            exact risOk_no2 h0 (by omega),
        fun h1 => risOk_no (by omega), fun h1 h2 => risOk_yes (by omega) (by omega) (fun h0 => by
          have := hlast.out.2 h0
          omega)⟩))
      have L0 := Lib.hid (show (k + 1 = 0 → xs[k]?.getD 0 = -1) ∧ (0 < k + 1 → xs[k]?.getD 0 = xs[k + 1 - 1]?.getD 0 ∧ (y < xs[k]?.getD 0 → 0 ≤ xs[k]?.getD 0)) from ⟨fun h => by omega, fun _ => ⟨rfl, fun h => by omega⟩⟩)
      clear hy
      obtain ⟨x, hxe⟩ : ∃ x, xs[k]?.getD 0 = x := ⟨_, rfl⟩
      have Z := Lib.hid (Z0.out x hxe)
      rw [hxe] at hd L0
      clear hxe
      by_cases h1 : x ≤ y
      · have R := Lib.hid (N0.out (Z.out.1 h1)).symm
        go_wp2
        go_ret
        exact ⟨ret_bool R.out, rfl⟩
      by_cases h2 : (n : Int) ≤ x
      · have R := Lib.hid (N0.out (Z.out.2.1 h2)).symm
        go_wp2
        go_ret
        exact ⟨ret_bool R.out, rfl⟩
      have R := Lib.hid (Y0.out (Z.out.2.2 (by omega) (by omega)))
      go_wp2
      go_round
      case rel => exact ⟨k + 1, x, by omega, by go_num, rfl, by omega, R, Lib.hid ⟨L0.out.1, fun h => ⟨(L0.out.2 h).1, (L0.out.2 h).2 (by omega)⟩⟩⟩
      case measure => simp [intOf]; omega
    · obtain rfl : k = m := by omega
      have R := Lib.hid (show true = risB xs n from (allTo_yes (by rw [hl.out]; exact hall.out)).symm)
      go_wp2
      go_ret
      exact ⟨ret_bool R.out, rfl⟩

set_option maxHeartbeats 800000 in
theorem l1Rising_any (V : Option Addr) (n m d : Nat) (xs : List Int) (w : World) (_hn : n ≤ 1099511627776) (hy : IntR w V m xs) :
    Calls Tryz.prog 95 #[.slice V m d, .int .i64 0, .int .i64 ((n : Int) - 1)] w fun e w' => e = .returned (.bool (risB xs n)) ∧ w = w' := by
  have hm := hy.bd
  have hl := Lib.hid hy.len
  go_enter Tryz.func95, Tryz.ntmps95
  go_wp2
  go_loop [11] (fun i => ∃ (k : Nat), k ≤ m ∧ i = .int .i64 k ∧ Hid (∀ t, t < k → risOk xs n t = true)) (fun i => m - (intOf i).toNat)
  case atStart => exact ⟨0, Nat.zero_le _, rfl, Lib.hid fun t ht => absurd ht (by omega)⟩
  case round =>
    obtain ⟨k, hk, rfl, hall⟩ := hrel
    by_cases hlt : k < m
    · obtain ⟨ad, rfl, hd⟩ := hy.i.at_ hlt
      have N0 := Lib.hid (fun h => risB_no (xs := xs) (n := n) hl.out hlt h)
      have Y0 := Lib.hid (fun h => all_succ (p := fun t => risOk xs n t = true) hall.out h)
      obtain ⟨x, hxe⟩ : ∃ x, xs[k]?.getD 0 = x := ⟨_, rfl⟩
      have P0 := Lib.hid (show inR (xs[k]?.getD 0) 0 ((n : Int) - 1) = inR x 0 ((n : Int) - 1) by rw [hxe])
      have X0 := Lib.hid hxe
      rw [hxe] at hd
      clear hxe
      cases hB : inR x 0 ((n : Int) - 1)
      · have H := Lib.hid hB
        have R := Lib.hid (N0.out (by unfold risOk; rw [P0.out, hB]; rfl)).symm
        clear hB hy
        go_wp2_with (go_at_call 29; refine (l1In_any _ _ _ _).mono ?_; rintro e w2 ⟨rfl, rfl⟩; rw [H.out])
        go_ret
        exact ⟨ret_bool R.out, rfl⟩
      · have H := Lib.hid hB
        have hin := inR_of hB
        clear hB
        by_cases hk0 : k = 0
        · subst hk0
          have R := Lib.hid (Y0.out (risOk_yes (by rw [X0.out]; exact hin.1) (by rw [X0.out]; exact hin.2) (fun h => absurd h (by omega))))
          have ha : ad.add 0 = ad := by unfold Addr.add; simp
          rw [ha] at hd
          clear hy ha
          go_wp2_with (go_at_call 29; refine (l1In_any _ _ _ _).mono ?_; rintro e w2 ⟨rfl, rfl⟩; rw [H.out])
          go_round
          case rel => exact ⟨1, by omega, by go_num, R⟩
          case measure => simp [intOf]; omega
        · obtain ⟨ad', e, hd2⟩ := hy.i.at_ (show k - 1 < m by omega)
          injection e with e
          subst e
          obtain ⟨y, hye⟩ : ∃ y, xs[k - 1]?.getD 0 = y := ⟨_, rfl⟩
          have X1 := Lib.hid hye
          rw [hye] at hd2
          clear hye hy
          have hz : 0 < k := by omega
          clear hk0
          by_cases hxy : y < x
          · have R := Lib.hid (Y0.out (risOk_yes (by rw [X0.out]; exact hin.1) (by rw [X0.out]; exact hin.2) (fun _ => by rw [X0.out, X1.out]; exact hxy)))
            go_wp2_with (go_at_call 29; refine (l1In_any _ _ _ _).mono ?_; rintro e w2 ⟨rfl, rfl⟩; rw [H.out])
            go_round
            case rel => exact ⟨k + 1, by omega, by go_num, R⟩
            case measure => simp [intOf]; omega
          · have R := Lib.hid (N0.out (risOk_no2 (by omega) (by rw [X0.out, X1.out]; exact hxy))).symm
            go_wp2_with (go_at_call 29; refine (l1In_any _ _ _ _).mono ?_; rintro e w2 ⟨rfl, rfl⟩; rw [H.out])
            go_ret
            exact ⟨ret_bool R.out, rfl⟩
    · obtain rfl : k = m := by omega
      have R := Lib.hid (show true = risB xs n from (allTo_yes (by rw [hl.out]; exact hall.out)).symm)
      go_wp2
      go_ret
      exact ⟨ret_bool R.out, rfl⟩
end

section
open Go.RowKit

/-- Schema, data and key variables are valid. -/
def keyedB (vs : List (ByteArray × Int)) (rs : List RecD) (xs : List Int) : Bool := schB vs && (dataB vs rs && risB xs vs.length)
def swB (vs : List (ByteArray × Int)) (xs : List Int) (n : Nat) : Bool := schB vs && risB xs n
def dinB (vs : List (ByteArray × Int)) (rs : List RecD) : Bool := schB vs && dataB vs rs
def linkedB (vs : List (ByteArray × Int)) (rs qs : List RecD) (xs : List Int) : Bool := keyedB vs rs xs && dataB vs qs
theorem keyedB_sw {vs : List (ByteArray × Int)} {rs : List RecD} {xs : List Int} {n : Nat} (h : vs.length = n) : keyedB vs rs xs = (swB vs xs n && dataB vs rs) := by
  unfold keyedB swB; rw [h]; cases schB vs <;> cases dataB vs rs <;> cases risB xs n <;> rfl

set_option maxHeartbeats 800000 in
theorem areKeyed_any (A B V : Option Addr) (n c m d l k : Nat) (vs : List (ByteArray × Int)) (rs : List RecD) (xs : List Int) (w : World) (hx : SchR w A n c vs) (hy : DatR w B m rs) (hv : IntR w V l xs) :
    Calls Tryz.prog 22 #[.slice A n c, .slice B m d, .slice V l k] w fun e w' => e = .returned (.bool (keyedB vs rs xs)) ∧ Below w.heap.size w w' := by
  have hlen := Lib.hid hx.len
  cases h0 : schB vs
  · have R := Lib.hid (show false = keyedB vs rs xs by unfold keyedB; rw [hlen.out]; simp [h0])
    have H0 := Lib.hid h0
    clear h0
    go_enter Tryz.func22, Tryz.ntmps22
    have B0 := Lib.hid (Below.refl w.heap.size w)
    go_wp2_with fail
    refine (IsSchema_any _ n _ vs _ (hx.below B0.out).v hx.s hx.bd hx.cp).mono ?_
    rintro e w1 ⟨rfl, b1⟩
    rw [H0.out]
    have B1 := Lib.hid (B0.out.trans (b1.mono B0.out.size))
    clear b1
    go_wp2
    go_ret
    exact ⟨ret_bool R.out, B1.out⟩
  cases h1 : dataB vs rs
  · have R := Lib.hid (show false = keyedB vs rs xs by unfold keyedB; rw [hlen.out]; simp [h0, h1])
    have H0 := Lib.hid h0
    have H1 := Lib.hid h1
    clear h0 h1
    go_enter Tryz.func22, Tryz.ntmps22
    have B0 := Lib.hid (Below.refl w.heap.size w)
    go_wp2_with fail
    refine (IsSchema_any _ n _ vs _ (hx.below B0.out).v hx.s hx.bd hx.cp).mono ?_
    rintro e w1 ⟨rfl, b1⟩
    rw [H0.out]
    have B1 := Lib.hid (B0.out.trans (b1.mono B0.out.size))
    clear b1
    go_wp2_with fail
    refine (isData_any _ _ n _ m _ vs rs _ (hx.below B1.out) (hy.below B1.out)).mono ?_
    rintro e w2 ⟨rfl, b2⟩
    rw [H1.out]
    have B2 := Lib.hid (B1.out.trans (b2.mono B1.out.size))
    clear b2
    go_wp2
    go_ret
    exact ⟨ret_bool R.out, B2.out⟩
  cases h2 : risB xs n
  · have R := Lib.hid (show false = keyedB vs rs xs by unfold keyedB; rw [hlen.out]; simp [h0, h1, h2])
    have H0 := Lib.hid h0
    have H1 := Lib.hid h1
    have H2 := Lib.hid h2
    clear h0 h1 h2
    go_enter Tryz.func22, Tryz.ntmps22
    have B0 := Lib.hid (Below.refl w.heap.size w)
    go_wp2_with fail
    refine (IsSchema_any _ n _ vs _ (hx.below B0.out).v hx.s hx.bd hx.cp).mono ?_
    rintro e w1 ⟨rfl, b1⟩
    rw [H0.out]
    have B1 := Lib.hid (B0.out.trans (b1.mono B0.out.size))
    clear b1
    go_wp2_with fail
    refine (isData_any _ _ n _ m _ vs rs _ (hx.below B1.out) (hy.below B1.out)).mono ?_
    rintro e w2 ⟨rfl, b2⟩
    rw [H1.out]
    have B2 := Lib.hid (B1.out.trans (b2.mono B1.out.size))
    clear b2
    go_wp2_with fail
    refine (areVars_any _ _ n _ l _ xs _ hx.bd (hv.below B2.out)).mono ?_
    rintro e w3 ⟨rfl, rfl⟩
    rw [H2.out]
    have B3 := Lib.hid B2.out
    go_wp2
    go_ret
    exact ⟨ret_bool R.out, B3.out⟩
  have R := Lib.hid (show true = keyedB vs rs xs by unfold keyedB; rw [hlen.out]; simp [h0, h1, h2])
  have H0 := Lib.hid h0
  have H1 := Lib.hid h1
  have H2 := Lib.hid h2
  clear h0 h1 h2
  go_enter Tryz.func22, Tryz.ntmps22
  have B0 := Lib.hid (Below.refl w.heap.size w)
  go_wp2_with fail
  refine (IsSchema_any _ n _ vs _ (hx.below B0.out).v hx.s hx.bd hx.cp).mono ?_
  rintro e w1 ⟨rfl, b1⟩
  rw [H0.out]
  have B1 := Lib.hid (B0.out.trans (b1.mono B0.out.size))
  clear b1
  go_wp2_with fail
  refine (isData_any _ _ n _ m _ vs rs _ (hx.below B1.out) (hy.below B1.out)).mono ?_
  rintro e w2 ⟨rfl, b2⟩
  rw [H1.out]
  have B2 := Lib.hid (B1.out.trans (b2.mono B1.out.size))
  clear b2
  go_wp2_with fail
  refine (areVars_any _ _ n _ l _ xs _ hx.bd (hv.below B2.out)).mono ?_
  rintro e w3 ⟨rfl, rfl⟩
  rw [H2.out]
  have B3 := Lib.hid B2.out
  go_wp2
  go_ret
  exact ⟨ret_bool R.out, B3.out⟩

set_option maxHeartbeats 800000 in
theorem swVars_any (A V : Option Addr) (n c l k : Nat) (vs : List (ByteArray × Int)) (xs : List Int) (w : World) (hx : SchR w A n c vs) (hv : IntR w V l xs) :
    Calls Tryz.prog 64 #[.slice A n c, .slice V l k] w fun e w' => e = .returned (.bool (swB vs xs n)) ∧ Below w.heap.size w w' := by
  have hn := hx.bd
  cases h0 : schB vs
  · have R := Lib.hid (show false = swB vs xs n by unfold swB; simp [h0])
    have H0 := Lib.hid h0
    clear h0
    go_enter Tryz.func64, Tryz.ntmps64
    have B0 := Lib.hid (Below.refl w.heap.size w)
    go_wp2_with fail
    refine (sGood_any _ n _ vs _ (hx.below B0.out).v hx.s hx.bd hx.cp).mono ?_
    rintro e w1 ⟨rfl, b1⟩
    rw [H0.out]
    have B1 := Lib.hid (B0.out.trans (b1.mono B0.out.size))
    clear b1
    go_wp2
    go_ret
    exact ⟨ret_bool R.out, B1.out⟩
  cases h1 : risB xs n
  · have R := Lib.hid (show false = swB vs xs n by unfold swB; simp [h0, h1])
    have H0 := Lib.hid h0
    have H1 := Lib.hid h1
    clear h0 h1
    go_enter Tryz.func64, Tryz.ntmps64
    have B0 := Lib.hid (Below.refl w.heap.size w)
    go_wp2_with fail
    refine (sGood_any _ n _ vs _ (hx.below B0.out).v hx.s hx.bd hx.cp).mono ?_
    rintro e w1 ⟨rfl, b1⟩
    rw [H0.out]
    have B1 := Lib.hid (B0.out.trans (b1.mono B0.out.size))
    clear b1
    go_wp2_with fail
    refine (l1Rising_any _ n l _ xs _ hx.bd (hv.below B1.out)).mono ?_
    rintro e w2 ⟨rfl, rfl⟩
    rw [H1.out]
    have B2 := Lib.hid B1.out
    go_wp2
    go_ret
    exact ⟨ret_bool R.out, B2.out⟩
  have R := Lib.hid (show true = swB vs xs n by unfold swB; simp [h0, h1])
  have H0 := Lib.hid h0
  have H1 := Lib.hid h1
  clear h0 h1
  go_enter Tryz.func64, Tryz.ntmps64
  have B0 := Lib.hid (Below.refl w.heap.size w)
  go_wp2_with fail
  refine (sGood_any _ n _ vs _ (hx.below B0.out).v hx.s hx.bd hx.cp).mono ?_
  rintro e w1 ⟨rfl, b1⟩
  rw [H0.out]
  have B1 := Lib.hid (B0.out.trans (b1.mono B0.out.size))
  clear b1
  go_wp2_with fail
  refine (l1Rising_any _ n l _ xs _ hx.bd (hv.below B1.out)).mono ?_
  rintro e w2 ⟨rfl, rfl⟩
  rw [H1.out]
  have B2 := Lib.hid B1.out
  go_wp2
  go_ret
  exact ⟨ret_bool R.out, B2.out⟩

theorem and_left {a b : Bool} (h : (a && b) = true) : a = true := by cases a <;> simp_all
theorem keyedB_sch {vs : List (ByteArray × Int)} {rs : List RecD} {xs : List Int} (h : keyedB vs rs xs = true) : schB vs = true := and_left h

set_option maxHeartbeats 800000 in
theorem swInput_any (A B V : Option Addr) (n c m d l k : Nat) (vs : List (ByteArray × Int)) (rs : List RecD) (xs : List Int) (w : World) (hx : SchR w A n c vs) (hy : DatR w B m rs) (hv : IntR w V l xs) :
    Calls Tryz.prog 28 #[.slice A n c, .slice B m d, .slice V l k] w fun e w' => e = .returned (.bool (keyedB vs rs xs)) ∧ Below w.heap.size w w' := by
  have hlen := Lib.hid hx.len
  cases h0 : swB vs xs n
  · have R := Lib.hid (show false = keyedB vs rs xs by rw [keyedB_sw hlen.out]; simp [h0])
    have H0 := Lib.hid h0
    clear h0
    go_enter Tryz.func28, Tryz.ntmps28
    have B0 := Lib.hid (Below.refl w.heap.size w)
    go_wp2_with fail
    refine (swVars_any _ _ n _ l _ vs xs _ (hx.below B0.out) (hv.below B0.out)).mono ?_
    rintro e w1 ⟨rfl, b1⟩
    rw [H0.out]
    have B1 := Lib.hid (B0.out.trans (b1.mono B0.out.size))
    clear b1
    go_wp2
    go_ret
    exact ⟨ret_bool R.out, B1.out⟩
  cases h1 : dataB vs rs
  · have R := Lib.hid (show false = keyedB vs rs xs by rw [keyedB_sw hlen.out]; simp [h0, h1])
    have H0 := Lib.hid h0
    have H1 := Lib.hid h1
    clear h0 h1
    go_enter Tryz.func28, Tryz.ntmps28
    have B0 := Lib.hid (Below.refl w.heap.size w)
    go_wp2_with fail
    refine (swVars_any _ _ n _ l _ vs xs _ (hx.below B0.out) (hv.below B0.out)).mono ?_
    rintro e w1 ⟨rfl, b1⟩
    rw [H0.out]
    have B1 := Lib.hid (B0.out.trans (b1.mono B0.out.size))
    clear b1
    go_wp2_with fail
    refine (dGood_any _ _ n _ m _ vs rs _ (hx.below B1.out) (hy.below B1.out) (hx.lev (and_left H0.out))).mono ?_
    rintro e w2 ⟨rfl, b2⟩
    rw [H1.out]
    have B2 := Lib.hid (B1.out.trans (b2.mono B1.out.size))
    clear b2
    go_wp2
    go_ret
    exact ⟨ret_bool R.out, B2.out⟩
  have R := Lib.hid (show true = keyedB vs rs xs by rw [keyedB_sw hlen.out]; simp [h0, h1])
  have H0 := Lib.hid h0
  have H1 := Lib.hid h1
  clear h0 h1
  go_enter Tryz.func28, Tryz.ntmps28
  have B0 := Lib.hid (Below.refl w.heap.size w)
  go_wp2_with fail
  refine (swVars_any _ _ n _ l _ vs xs _ (hx.below B0.out) (hv.below B0.out)).mono ?_
  rintro e w1 ⟨rfl, b1⟩
  rw [H0.out]
  have B1 := Lib.hid (B0.out.trans (b1.mono B0.out.size))
  clear b1
  go_wp2_with fail
  refine (dGood_any _ _ n _ m _ vs rs _ (hx.below B1.out) (hy.below B1.out) (hx.lev (and_left H0.out))).mono ?_
  rintro e w2 ⟨rfl, b2⟩
  rw [H1.out]
  have B2 := Lib.hid (B1.out.trans (b2.mono B1.out.size))
  clear b2
  go_wp2
  go_ret
  exact ⟨ret_bool R.out, B2.out⟩

set_option maxHeartbeats 800000 in
theorem dInput_any (A B : Option Addr) (n c m d : Nat) (vs : List (ByteArray × Int)) (rs : List RecD) (w : World) (hx : SchR w A n c vs) (hy : DatR w B m rs) :
    Calls Tryz.prog 50 #[.slice A n c, .slice B m d] w fun e w' => e = .returned (.bool (dinB vs rs)) ∧ Below w.heap.size w w' := by
  cases h0 : schB vs
  · have R := Lib.hid (show false = dinB vs rs by unfold dinB; simp [h0])
    have H0 := Lib.hid h0
    clear h0
    go_enter Tryz.func50, Tryz.ntmps50
    have B0 := Lib.hid (Below.refl w.heap.size w)
    go_wp2_with fail
    refine (sGood_any _ n _ vs _ (hx.below B0.out).v hx.s hx.bd hx.cp).mono ?_
    rintro e w1 ⟨rfl, b1⟩
    rw [H0.out]
    have B1 := Lib.hid (B0.out.trans (b1.mono B0.out.size))
    clear b1
    go_wp2
    go_ret
    exact ⟨ret_bool R.out, B1.out⟩
  cases h1 : dataB vs rs
  · have R := Lib.hid (show false = dinB vs rs by unfold dinB; simp [h0, h1])
    have H0 := Lib.hid h0
    have H1 := Lib.hid h1
    clear h0 h1
    go_enter Tryz.func50, Tryz.ntmps50
    have B0 := Lib.hid (Below.refl w.heap.size w)
    go_wp2_with fail
    refine (sGood_any _ n _ vs _ (hx.below B0.out).v hx.s hx.bd hx.cp).mono ?_
    rintro e w1 ⟨rfl, b1⟩
    rw [H0.out]
    have B1 := Lib.hid (B0.out.trans (b1.mono B0.out.size))
    clear b1
    go_wp2_with fail
    refine (dGood_any _ _ n _ m _ vs rs _ (hx.below B1.out) (hy.below B1.out) (hx.lev H0.out)).mono ?_
    rintro e w2 ⟨rfl, b2⟩
    rw [H1.out]
    have B2 := Lib.hid (B1.out.trans (b2.mono B1.out.size))
    clear b2
    go_wp2
    go_ret
    exact ⟨ret_bool R.out, B2.out⟩
  have R := Lib.hid (show true = dinB vs rs by unfold dinB; simp [h0, h1])
  have H0 := Lib.hid h0
  have H1 := Lib.hid h1
  clear h0 h1
  go_enter Tryz.func50, Tryz.ntmps50
  have B0 := Lib.hid (Below.refl w.heap.size w)
  go_wp2_with fail
  refine (sGood_any _ n _ vs _ (hx.below B0.out).v hx.s hx.bd hx.cp).mono ?_
  rintro e w1 ⟨rfl, b1⟩
  rw [H0.out]
  have B1 := Lib.hid (B0.out.trans (b1.mono B0.out.size))
  clear b1
  go_wp2_with fail
  refine (dGood_any _ _ n _ m _ vs rs _ (hx.below B1.out) (hy.below B1.out) (hx.lev H0.out)).mono ?_
  rintro e w2 ⟨rfl, b2⟩
  rw [H1.out]
  have B2 := Lib.hid (B1.out.trans (b2.mono B1.out.size))
  clear b2
  go_wp2
  go_ret
  exact ⟨ret_bool R.out, B2.out⟩
end
end Go.Proofs.YtahbcnclhohnaaaGreat
