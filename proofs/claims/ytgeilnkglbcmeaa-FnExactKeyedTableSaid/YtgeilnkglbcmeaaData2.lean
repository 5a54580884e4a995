/- Data of a schema and key variables: the tests of the program and of the reference. -/
import Derived.Test.YtgeilnkglbcmeaaData
namespace Go.Proofs.Ytgeilnkglbcmeaa
open Go.RowKit

/-- A schema, data, a list of ints as an argument. -/
structure SchR (w : World) (A : Option Addr) (n c : Nat) (vs : List (ByteArray × Int)) : Prop where
  v : VarsR w A n vs
  s : ∀ j, j < n → (vN vs j).size ≤ 1099511627776
  bd : n ≤ 1099511627776
  cp : n ≤ c
structure DatR (w : World) (A : Option Addr) (n : Nat) (rs : List RecD) : Prop where
  r : RecsR w A n rs
  s : ∀ j, j < n → (rV rs j).length ≤ 1099511627776
  bd : n ≤ 1099511627776
structure IntR (w : World) (A : Option Addr) (n : Nat) (xs : List Int) : Prop where
  i : Ints w A n xs
  bd : n ≤ 1099511627776
section
variable {w w' : World} {A : Option Addr} {n c : Nat} {vs : List (ByteArray × Int)} {rs : List RecD} {xs : List Int}
theorem SchR.below (h : SchR w A n c vs) (hb : Below w.heap.size w w') : SchR w' A n c vs := ⟨h.v.below hb, h.s, h.bd, h.cp⟩
theorem DatR.below (h : DatR w A n rs) (hb : Below w.heap.size w w') : DatR w' A n rs := ⟨h.r.below hb, h.s, h.bd⟩
theorem IntR.below (h : IntR w A n xs) (hb : Below w.heap.size w w') : IntR w' A n xs := ⟨h.i.below hb, h.bd⟩
theorem SchR.len (h : SchR w A n c vs) : vs.length = n := h.v.1
theorem DatR.len (h : DatR w A n rs) : rs.length = n := h.r.1
theorem IntR.len (h : IntR w A n xs) : xs.length = n := h.i.1
theorem SchR.lev (h : SchR w A n c vs) (hs : schB vs = true) : ∀ j, j < n → 2 ≤ vL vs j ∧ vL vs j ≤ 8 := fun j hj => (schB_of hs).2 j (by rw [h.len]; exact hj)
theorem SchR.six (h : SchR w A n c vs) (hs : schB vs = true) : 1 ≤ n ∧ n ≤ 6 := by have := (schB_of hs).1; rw [h.len] at this; exact this
theorem OwnI.intR {lo hi : Nat} (h : OwnI w lo hi A n c xs) : IntR w A n xs := ⟨h.ints, h.small⟩
end

def recOk (vs : List (ByteArray × Int)) (rs : List RecD) (i : Nat) : Bool := recB vs (rA rs i) (rH rs i) (rV rs i)
def dataB (vs : List (ByteArray × Int)) (rs : List RecD) : Bool := decide (rs.length ≤ 40) && allTo (recOk vs rs) rs.length
theorem dataB_len {vs : List (ByteArray × Int)} {rs : List RecD} (h : ¬ rs.length ≤ 40) : dataB vs rs = false := by simp [dataB, h]
theorem dataB_no {vs : List (ByteArray × Int)} {rs : List RecD} {n k : Nat} (hl : rs.length = n) (hk : k < n) (h : recOk vs rs k = false) : dataB vs rs = false := by
  unfold dataB; rw [allTo_no (i := k) (by omega) h, Bool.and_false]
theorem dataB_eq {vs : List (ByteArray × Int)} {rs : List RecD} {n : Nat} (hl : rs.length = n) (h : ∀ i, i < n → recOk vs rs i = true) : dataB vs rs = decide (n ≤ 40) := by
  unfold dataB; rw [allTo_yes (by rw [hl]; exact h), Bool.and_true, hl]
theorem dataB_of {vs : List (ByteArray × Int)} {rs : List RecD} (h : dataB vs rs = true) : rs.length ≤ 40 ∧ ∀ i, i < rs.length → recOk vs rs i = true := by
  simp only [dataB, Bool.and_eq_true, decide_eq_true_eq] at h
  exact ⟨h.1, allTo_of h.2⟩

theorem all_succ {p : Nat → Prop} {k : Nat} (h : ∀ t, t < k → p t) (hk : p k) : ∀ t, t < k + 1 → p t := fun t ht => by
  rcases Nat.lt_or_ge t k with h' | h'
  · exact h t h'
  · obtain rfl : t = k := by omega
    exact hk

set_option maxHeartbeats 800000 in
theorem isData_any (A B : Option Addr) (n c m d : Nat) (vs : List (ByteArray × Int)) (rs : List RecD) (w : World) (hx : SchR w A n c vs) (hy : DatR w B m rs) :
    Calls Try.prog 108 #[.slice A n c, .slice B m d] w fun e w' => e = .returned (.bool (dataB vs rs)) ∧ Below w.heap.size w w' := by
  have hn := hx.bd
  have hm := hy.bd
  have hl := Lib.hid hy.len
  by_cases h40 : m ≤ 40
  · go_enter Try.func108, Try.ntmps108
    go_wp2
    go_loopw [12] (fun i wr => ∃ k : Nat, k ≤ m ∧ i = .int .i64 k ∧ Hid (∀ t, t < k → recOk vs rs t = true) ∧ Below w.heap.size w wr) (fun i _ => m - (intOf i).toNat)
    case atStart => exact ⟨0, Nat.zero_le _, rfl, Lib.hid fun t ht => absurd ht (by omega), Below.refl _ _⟩
    case round =>
      obtain ⟨k, hk, rfl, hall, hbw⟩ := hrel
      by_cases hlt : k < m
      · obtain ⟨ad, rfl, c0, c1, V, l, cc, c2, hv⟩ := (hy.below hbw).r.at_ hlt
        have N0 := Lib.hid (fun h => dataB_no (vs := vs) hl.out hlt h)
        have Y0 := Lib.hid (fun h => all_succ (p := fun t => recOk vs rs t = true) hall.out h)
        have hv1 := Lib.hid hv
        have hlv : l ≤ 1099511627776 := by have := hy.s k hlt; rw [hv.1] at this; exact this
        have hX := Lib.hid (hx.below hbw)
        clear hx hy hv
        rw [show recOk vs rs k = recB vs (rA rs k) (rH rs k) (rV rs k) from rfl] at N0 Y0
        generalize rA rs k = x at *
        generalize rH rs k = y at *
        generalize rV rs k = xs at *
        have b1 := below_new wr (.cells #[.int .i64 x, .int .i64 y, .slice V l cc] 53)
        have hb2 := hbw.trans (b1.mono hbw.size)
        have HX := Lib.hid (hX.out.v.below b1)
        have HV := Lib.hid (hv1.out.below b1)
        have HB := Lib.hid hb2
        have hsz := hb2.size
        clear b1 hb2
        cases hB : recB vs x y xs
        · have R := Lib.hid (N0.out hB).symm
          have H := Lib.hid hB
          clear hB
          go_wp2_with (go_at_call 77; refine (isRecord_any _ _ n _ l _ x y vs xs _ HX.out HV.out hn hlv).mono ?_; rintro e w2 ⟨rfl, hb3⟩; rw [H.out]; have hb4 := Lib.hid (HB.out.trans (hb3.mono hsz)); clear hb3)
          go_ret
          exact ⟨ret_bool R.out, hb4.out⟩
        · have R := Lib.hid (Y0.out hB)
          have H := Lib.hid hB
          clear hB
          go_wp2_with (go_at_call 77; refine (isRecord_any _ _ n _ l _ x y vs xs _ HX.out HV.out hn hlv).mono ?_; rintro e w2 ⟨rfl, hb3⟩; rw [H.out]; have hb4 := Lib.hid (HB.out.trans (hb3.mono hsz)); clear hb3)
          go_roundw
          case rel => exact ⟨k + 1, by omega, by go_num, R, hb4.out⟩
          case measure => simp [intOf]; omega
      · obtain rfl : k = m := by omega
        have R := Lib.hid (show true = dataB vs rs by rw [dataB_eq hl.out hall.out, decide_eq_true h40])
        go_wp2
        go_ret
        exact ⟨ret_bool R.out, hbw⟩
  · have R := Lib.hid (dataB_len (vs := vs) (by rw [hl.out]; exact h40)).symm
    go_enter Try.func108, Try.ntmps108
    go_wp2
    go_ret
    exact ⟨ret_bool R.out, Below.refl _ _⟩

set_option maxHeartbeats 800000 in
theorem dGood_any (A B : Option Addr) (n c m d : Nat) (vs : List (ByteArray × Int)) (rs : List RecD) (w : World) (hx : SchR w A n c vs) (hy : DatR w B m rs) (hL : ∀ j, j < n → 2 ≤ vL vs j ∧ vL vs j ≤ 8) :
    Calls Try.prog 131 #[.slice A n c, .slice B m d] w fun e w' => e = .returned (.bool (dataB vs rs)) ∧ Below w.heap.size w w' := by
  have hn := hx.bd
  have hm := hy.bd
  have hl := Lib.hid hy.len
  have hLL := Lib.hid hL
  clear hL
  go_enter Try.func131, Try.ntmps131
  go_wp2
  go_loopw [9] (fun i wr => ∃ k : Nat, k ≤ m ∧ i = .int .i64 k ∧ Hid (∀ t, t < k → recOk vs rs t = true) ∧ Below w.heap.size w wr) (fun i _ => m - (intOf i).toNat)
  case atStart => exact ⟨0, Nat.zero_le _, rfl, Lib.hid fun t ht => absurd ht (by omega), Below.refl _ _⟩
  case round =>
    obtain ⟨k, hk, rfl, hall, hbw⟩ := hrel
    by_cases hlt : k < m
    · obtain ⟨ad, rfl, c0, c1, V, l, cc, c2, hv⟩ := (hy.below hbw).r.at_ hlt
      have N0 := Lib.hid (fun h => dataB_no (vs := vs) hl.out hlt h)
      have Y0 := Lib.hid (fun h => all_succ (p := fun t => recOk vs rs t = true) hall.out h)
      have hv1 := Lib.hid hv
      have hlv : l ≤ 1099511627776 := by have := hy.s k hlt; rw [hv.1] at this; exact this
      have hX := Lib.hid (hx.below hbw)
      clear hx hy hv
      rw [show recOk vs rs k = recB vs (rA rs k) (rH rs k) (rV rs k) from rfl] at N0 Y0
      generalize rA rs k = x at *
      generalize rH rs k = y at *
      generalize rV rs k = xs at *
      have b1 := below_new wr (.cells #[.int .i64 x, .int .i64 y, .slice V l cc] 53)
      have hb2 := hbw.trans (b1.mono hbw.size)
      have HX := Lib.hid (hX.out.v.below b1)
      have HV := Lib.hid (hv1.out.below b1)
      have HB := Lib.hid hb2
      have hsz := hb2.size
      clear b1 hb2
      cases hB : recB vs x y xs
      · have R := Lib.hid (N0.out hB).symm
        have H := Lib.hid hB
        clear hB
        go_wp2_with (go_at_call 81; refine (rGood_any _ _ n _ l _ x y vs xs _ HX.out HV.out hLL.out hn hlv).mono ?_; rintro e w2 ⟨rfl, hb3⟩; rw [H.out]; have hb4 := Lib.hid (HB.out.trans (hb3.mono hsz)); clear hb3)
        go_ret
        exact ⟨ret_bool R.out, hb4.out⟩
      · have R := Lib.hid (Y0.out hB)
        have H := Lib.hid hB
        clear hB
        go_wp2_with (go_at_call 81; refine (rGood_any _ _ n _ l _ x y vs xs _ HX.out HV.out hLL.out hn hlv).mono ?_; rintro e w2 ⟨rfl, hb3⟩; rw [H.out]; have hb4 := Lib.hid (HB.out.trans (hb3.mono hsz)); clear hb3)
        go_roundw
        case rel => exact ⟨k + 1, by omega, by go_num, R, hb4.out⟩
        case measure => simp [intOf]; omega
    · obtain rfl : k = m := by omega
      have R := Lib.hid (show decide ((k : Int) ≤ 40) = dataB vs rs by rw [dataB_eq hl.out hall.out]; exact decide_eq_decide.2 (by omega))
      go_wp2
      go_ret
      exact ⟨ret_bool R.out, hbw⟩

/-- A list of variables' numbers below n, rising. -/
def risOk (xs : List Int) (n : Nat) (i : Nat) : Bool := inR (xs[i]?.getD 0) 0 ((n : Int) - 1) && (decide (i = 0) || decide (xs[i - 1]?.getD 0 < xs[i]?.getD 0))
def risB (xs : List Int) (n : Nat) : Bool := allTo (risOk xs n) xs.length
theorem risOk_yes {xs : List Int} {n i : Nat} (h1 : 0 ≤ xs[i]?.getD 0) (h2 : xs[i]?.getD 0 ≤ (n : Int) - 1) (h3 : 0 < i → xs[i - 1]?.getD 0 < xs[i]?.getD 0) : risOk xs n i = true := by
  unfold risOk
  rw [inR_yes h1 h2]
  rcases Nat.eq_zero_or_pos i with h | h
  · simp [h]
  · simp [h3 h]
theorem risOk_no {xs : List Int} {n i : Nat} (h : ¬ (0 ≤ xs[i]?.getD 0 ∧ xs[i]?.getD 0 ≤ (n : Int) - 1)) : risOk xs n i = false := by
  unfold risOk; rw [inR_no h]; rfl
theorem risOk_no2 {xs : List Int} {n i : Nat} (h0 : 0 < i) (h : ¬ xs[i - 1]?.getD 0 < xs[i]?.getD 0) : risOk xs n i = false := by
  unfold risOk; rw [decide_eq_false h, decide_eq_false (by omega)]; simp
theorem risB_no {xs : List Int} {n m k : Nat} (hl : xs.length = m) (hk : k < m) (h : risOk xs n k = false) : risB xs n = false := allTo_no (i := k) (by omega) h
theorem risB_of {xs : List Int} {n : Nat} (h : risB xs n = true) : ∀ i, i < xs.length → 0 ≤ xs[i]?.getD 0 ∧ xs[i]?.getD 0 ≤ (n : Int) - 1 := fun i hi => by
  have := allTo_of h i hi
  simp only [risOk, Bool.and_eq_true] at this
  exact inR_of this.1
theorem risB_lt {xs : List Int} {n : Nat} (h : risB xs n = true) {i : Nat} (h0 : 0 < i) (hi : i < xs.length) : xs[i - 1]?.getD 0 < xs[i]?.getD 0 := by
  have := allTo_of h i hi
  simp only [risOk, Bool.and_eq_true, Bool.or_eq_true, decide_eq_true_eq] at this
  rcases this.2 with h1 | h1
  · omega
  · exact h1
theorem risB_ge {xs : List Int} {n : Nat} (h : risB xs n = true) : ∀ i, i < xs.length → (i : Int) ≤ xs[i]?.getD 0 := by
  intro i
  induction i with
  | zero => intro hi; have := risB_of h 0 hi; omega
  | succ i ih => intro hi; have := ih (by omega); have := risB_lt h (i := i + 1) (by omega) hi; simp only [Nat.add_sub_cancel] at this; omega
theorem risB_len {xs : List Int} {n : Nat} (h : risB xs n = true) : xs.length ≤ n := by
  rcases Nat.eq_zero_or_pos xs.length with h0 | h0
  · omega
  · have h1 := risB_ge h (xs.length - 1) (by omega)
    have h2 := risB_of h (xs.length - 1) (by omega)
    omega

set_option maxHeartbeats 800000 in
theorem areVars_any (A V : Option Addr) (n c m d : Nat) (xs : List Int) (w : World) (_hn : n ≤ 1099511627776) (hy : IntR w V m xs) :
    Calls Try.prog 109 #[.slice A n c, .slice V m d] w fun e w' => e = .returned (.bool (risB xs n)) ∧ w = w' := by
  have hm := hy.bd
  have hl := Lib.hid hy.len
  go_enter Try.func109, Try.ntmps109
  go_wp2
  go_loop [5, 10] (fun b i => ∃ (k : Nat) (y : Int), k ≤ m ∧ i = .int .i64 k ∧ b = .int .i64 y ∧ -1 ≤ y ∧ Hid (∀ t, t < k → risOk xs n t = true) ∧ Hid ((k = 0 → y = -1) ∧ (0 < k → y = xs[k - 1]?.getD 0 ∧ 0 ≤ y))) (fun _ i => m - (intOf i).toNat)
  case atStart => exact ⟨0, -1, Nat.zero_le _, rfl, rfl, by omega, Lib.hid fun t ht => absurd ht (by omega), Lib.hid ⟨fun _ => rfl, fun h => absurd h (by omega)⟩⟩
  case round =>
    obtain ⟨k, y, hk, rfl, rfl, hy1, hall, hlast⟩ := hrel
    by_cases hlt : k < m
    · obtain ⟨ad, rfl, hd⟩ := hy.i.at_ hlt
      have N0 := Lib.hid (fun h => risB_no (xs := xs) (n := n) hl.out hlt h)
      have Y0 := Lib.hid (fun h => all_succ (p := fun t => risOk xs n t = true) hall.out h)
      have Z0 := Lib.hid (fun (x : Int) (h : xs[k]?.getD 0 = x) => (show (x ≤ y → risOk xs n k = false) ∧ ((n : Int) ≤ x → risOk xs n k = false) ∧ (y < x → x < n → risOk xs n k = true) from ⟨fun h1 => by
          rcases Nat.eq_zero_or_pos k with h0 | h0
          · have := hlast.out.1 h0
            exact risOk_no (by omega)
          · have := hlast.out.2 h0
            exact risOk_no2 h0 (by omega),
        fun h1 => risOk_no (by omega), fun h1 h2 => risOk_yes (by omega) (by omega) (fun h0 => by
          have := hlast.out.2 h0
          omega)⟩))
      have L0 := Lib.hid (show (k + 1 = 0 → xs[k]?.getD 0 = -1) ∧ (0 < k + 1 → xs[k]?.getD 0 = xs[k + 1 - 1]?.getD 0 ∧ (y < xs[k]?.getD 0 → 0 ≤ xs[k]?.getD 0)) from ⟨fun h => by omega, fun _ => ⟨rfl, fun h => by omega⟩⟩)
      clear hy
      obtain ⟨x, hxe⟩ : ∃ x, xs[k]?.getD 0 = x := ⟨_, rfl⟩
      have Z := Lib.hid (Z0.out x hxe)
      rw [hxe] at hd L0
      clear hxe
      by_cases h1 : x ≤ y
      · have R := Lib.hid (N0.out (Z.out.1 h1)).symm
        go_wp2
        go_ret
        exact ⟨ret_bool R.out, rfl⟩
      by_cases h2 : (n : Int) ≤ x
      · have R := Lib.hid (N0.out (Z.out.2.1 h2)).symm
        go_wp2
        go_ret
        exact ⟨ret_bool R.out, rfl⟩
      have R := Lib.hid (Y0.out (Z.out.2.2 (by omega) (by omega)))
      go_wp2
      go_round
      case rel => exact ⟨k + 1, x, by omega, by go_num, rfl, by omega, R, Lib.hid ⟨L0.out.1, fun h => ⟨(L0.out.2 h).1, (L0.out.2 h).2 (by omega)⟩⟩⟩
      case measure => simp [intOf]; omega
    · obtain rfl : k = m := by omega
      have R := Lib.hid (show true = risB xs n from (allTo_yes (by rw [hl.out]; exact hall.out)).symm)
      go_wp2
      go_ret
      exact ⟨ret_bool R.out, rfl⟩

set_option maxHeartbeats 800000 in
theorem l1Rising_any (V : Option Addr) (n m d : Nat) (xs : List Int) (w : World) (_hn : n ≤ 1099511627776) (hy : IntR w V m xs) :
    Calls Try.prog 104 #[.slice V m d, .int .i64 0, .int .i64 ((n : Int) - 1)] w fun e w' => e = .returned (.bool (risB xs n)) ∧ w = w' := by
  have hm := hy.bd
  have hl := Lib.hid hy.len
  go_enter Try.func104, Try.ntmps104
  go_wp2
  go_loop [11] (fun i => ∃ (k : Nat), k ≤ m ∧ i = .int .i64 k ∧ Hid (∀ t, t < k → risOk xs n t = true)) (fun i => m - (intOf i).toNat)
  case atStart => exact ⟨0, Nat.zero_le _, rfl, Lib.hid fun t ht => absurd ht (by omega)⟩
  case round =>
    obtain ⟨k, hk, rfl, hall⟩ := hrel
    by_cases hlt : k < m
    · obtain ⟨ad, rfl, hd⟩ := hy.i.at_ hlt
      have N0 := Lib.hid (fun h => risB_no (xs := xs) (n := n) hl.out hlt h)
      have Y0 := Lib.hid (fun h => all_succ (p := fun t => risOk xs n t = true) hall.out h)
      obtain ⟨x, hxe⟩ : ∃ x, xs[k]?.getD 0 = x := ⟨_, rfl⟩
      have P0 := Lib.hid (show inR (xs[k]?.getD 0) 0 ((n : Int) - 1) = inR x 0 ((n : Int) - 1) by rw [hxe])
      have X0 := Lib.hid hxe
      rw [hxe] at hd
      clear hxe
      cases hB : inR x 0 ((n : Int) - 1)
      · have H := Lib.hid hB
        have R := Lib.hid (N0.out (by unfold risOk; rw [P0.out, hB]; rfl)).symm
        clear hB hy
        go_wp2_with (go_at_call 85; refine (l1In_any _ _ _ _).mono ?_; rintro e w2 ⟨rfl, rfl⟩; rw [H.out])
        go_ret
        exact ⟨ret_bool R.out, rfl⟩
      · have H := Lib.hid hB
        have hin := inR_of hB
        clear hB
        by_cases hk0 : k = 0
        · subst hk0
          have R := Lib.hid (Y0.out (risOk_yes (by rw [X0.out]; exact hin.1) (by rw [X0.out]; exact hin.2) (fun h => absurd h (by omega))))
          have ha : ad.add 0 = ad := by unfold Addr.add; simp
          rw [ha] at hd
          clear hy ha
          go_wp2_with (go_at_call 85; refine (l1In_any _ _ _ _).mono ?_; rintro e w2 ⟨rfl, rfl⟩; rw [H.out])
          go_round
          case rel => exact ⟨1, by omega, by go_num, R⟩
          case measure => simp [intOf]; omega
        · obtain ⟨ad', e, hd2⟩ := hy.i.at_ (show k - 1 < m by omega)
          injection e with e
          subst e
          obtain ⟨y, hye⟩ : ∃ y, xs[k - 1]?.getD 0 = y := ⟨_, rfl⟩
          have X1 := Lib.hid hye
          rw [hye] at hd2
          clear hye hy
          have hz : 0 < k := by omega
          clear hk0
          by_cases hxy : y < x
          · have R := Lib.hid (Y0.out (risOk_yes (by rw [X0.out]; exact hin.1) (by rw [X0.out]; exact hin.2) (fun _ => by rw [X0.out, X1.out]; exact hxy)))
            go_wp2_with (go_at_call 85; refine (l1In_any _ _ _ _).mono ?_; rintro e w2 ⟨rfl, rfl⟩; rw [H.out])
            go_round
            case rel => exact ⟨k + 1, by omega, by go_num, R⟩
            case measure => simp [intOf]; omega
          · have R := Lib.hid (N0.out (risOk_no2 (by omega) (by rw [X0.out, X1.out]; exact hxy))).symm
            go_wp2_with (go_at_call 85; refine (l1In_any _ _ _ _).mono ?_; rintro e w2 ⟨rfl, rfl⟩; rw [H.out])
            go_ret
            exact ⟨ret_bool R.out, rfl⟩
    · obtain rfl : k = m := by omega
      have R := Lib.hid (show true = risB xs n from (allTo_yes (by rw [hl.out]; exact hall.out)).symm)
      go_wp2
      go_ret
      exact ⟨ret_bool R.out, rfl⟩
end Go.Proofs.Ytgeilnkglbcmeaa
