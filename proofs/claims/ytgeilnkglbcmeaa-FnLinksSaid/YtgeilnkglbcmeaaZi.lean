/- Several small texts in one: LkP, Min, LkQ. -/
import Derived.Test.YtgeilnkglbcmeaaClass
import Derived.Test.YtgeilnkglbcmeaaCert
import Derived.Test.YtgeilnkglbcmeaaZg
namespace Go.Proofs.Ytgeilnkglbcmeaa

section
open Go.RowKit

/-- The least of the first j of a list of positive numbers; 0 of none. -/
def leastTo (xs : List Int) : Nat → Int
  | 0 => 0
  | j + 1 => if leastTo xs j = 0 ∨ xs[j]?.getD 0 < leastTo xs j then xs[j]?.getD 0 else leastTo xs j
theorem leastTo_pos {xs : List Int} {n : Nat} (h : ∀ j, j < n → 1 ≤ xs[j]?.getD 0) : ∀ j, 0 < j → j ≤ n → 1 ≤ leastTo xs j := by
  intro j
  induction j with
  | zero => intro h0; omega
  | succ j ih =>
    intro _ hj
    have h1 := h j (by omega)
    rw [leastTo]
    split
    · exact h1
    · rcases Nat.eq_zero_or_pos j with rfl | h0
      · rename_i hq
        exact absurd (.inl rfl) hq
      · exact ih h0 (by omega)
theorem leastTo_yes {xs : List Int} {j : Nat} (h : leastTo xs j = 0 ∨ xs[j]?.getD 0 < leastTo xs j) : leastTo xs (j + 1) = xs[j]?.getD 0 := by rw [leastTo, if_pos h]
theorem leastTo_no {xs : List Int} {j : Nat} (h : ¬ (leastTo xs j = 0 ∨ xs[j]?.getD 0 < leastTo xs j)) : leastTo xs (j + 1) = leastTo xs j := by rw [leastTo, if_neg h]
theorem leastTo_one (xs : List Int) : leastTo xs 1 = xs[0]?.getD 0 := leastTo_yes (.inl rfl)
theorem linkK_pre {p : Nat → Bool} {i : Nat} : ∀ n, i ≤ n → ∃ s, linkK p n = linkK p i ++ s := by
  intro n
  induction n with
  | zero => intro h
            obtain rfl : i = 0 := by omega
            exact ⟨[], by simp⟩
  | succ n ih =>
    intro h
    rcases Nat.lt_or_ge n i with h1 | h1
    · obtain rfl : i = n + 1 := by omega
      exact ⟨[], by simp⟩
    · obtain ⟨s, e⟩ := ih h1
      cases hp : p n
      · exact ⟨s, by rw [linkK_no hp, e]⟩
      · exact ⟨s ++ [(n : Int)], by rw [linkK_yes hp, e, List.append_assoc]⟩
theorem linkK_nth {p : Nat → Bool} {i n : Nat} (hi : i < n) (hp : p i = true) : (linkK p i).length < (linkK p n).length ∧ (linkK p n)[(linkK p i).length]?.getD 0 = (i : Int) := by
  obtain ⟨s, e⟩ := linkK_pre (p := p) n (show i + 1 ≤ n from hi)
  rw [linkK_yes hp] at e
  rw [e]
  refine ⟨by simp, ?_⟩
  rw [List.append_assoc, List.getElem?_append_right (Nat.le_refl _), Nat.sub_self]
  rfl
theorem setL_self {vs : List (ByteArray × Int)} {us : List Int} {rs : List RecD} {i : Nat} (hi : i < rs.length) : 1 ≤ (setL vs us rs rs i).length := by
  have h1 : lnk vs us rs rs i i = true := by simp [lnk, sameB]
  have := (linkK_nth (p := lnk vs us rs rs i) hi h1).1
  unfold setL
  omega
theorem csL_at {vs : List (ByteArray × Int)} {us : List Int} {rs : List RecD} {i : Nat} (hi : i < rs.length) : (csL vs us rs)[i]?.getD 0 = ((setL vs us rs rs i).length : Int) := tabl_at hi
theorem csL_pos {vs : List (ByteArray × Int)} {us : List Int} {rs : List RecD} {i : Nat} (hi : i < (csL vs us rs).length) : 1 ≤ (csL vs us rs)[i]?.getD 0 := by
  rw [csL_len] at hi
  rw [csL_at hi]
  have := setL_self (vs := vs) (us := us) hi
  omega
/-- The unique records among the first i. -/
def uqN (vs : List (ByteArray × Int)) (us : List Int) (rs : List RecD) (i : Nat) : Nat := (linkK (fun i => decide ((setL vs us rs rs i).length = 1)) i).length
section
variable {vs : List (ByteArray × Int)} {us : List Int} {rs : List RecD} {i : Nat}
theorem uqN_end : uqN vs us rs rs.length = (uqL vs us rs).length := rfl
theorem uqN_yes (hi : i < rs.length) (h : (csL vs us rs)[i]?.getD 0 = 1) : uqN vs us rs (i + 1) = uqN vs us rs i + 1 ∧ uqN vs us rs i < (uqL vs us rs).length ∧ (uqL vs us rs)[uqN vs us rs i]?.getD 0 = (i : Int) := by
  rw [csL_at hi] at h
  have hp : (fun i => decide ((setL vs us rs rs i).length = 1)) i = true := by simp; omega
  refine ⟨?_, linkK_nth hi hp⟩
  unfold uqN
  rw [linkK_yes hp]
  simp
theorem uqN_no (hi : i < rs.length) (h : (csL vs us rs)[i]?.getD 0 ≠ 1) : uqN vs us rs (i + 1) = uqN vs us rs i := by
  rw [csL_at hi] at h
  have hp : (fun i => decide ((setL vs us rs rs i).length = 1)) i = false := by simp; omega
  unfold uqN
  rw [linkK_no hp]
theorem uqN_le (i : Nat) : uqN vs us rs i ≤ i := linkK_len _ _
end
/-- Each pair of the certain links: the set of the first is the second alone. -/
theorem pairsL_at {S : Nat → List Int} {m j : Nat} (h : j < (pairsL S m m).length) : ∃ t : Nat, t < m ∧ (pairsL S m m)[j]?.getD [] = [(t : Int), (S t)[0]?.getD 0] ∧ (S t).length = 1 := by
  unfold pairsL at h ⊢
  rw [List.length_map] at h
  obtain ⟨t, ht, e, e2⟩ := linkK_at h
  have hc : certB S m t = true := by
    have h9 := List.mem_of_getElem? e2
    rw [List.mem_filter] at h9
    exact h9.2
  refine ⟨t, ht, ?_, ?_⟩
  · rw [List.getElem?_map]
    rw [List.getElem?_eq_getElem h] at e ⊢
    simp only [Option.getD_some] at e
    simp [e]
  · unfold certB at hc
    simp only [Bool.and_eq_true, decide_eq_true_eq] at hc
    exact hc.1
end

section
open Go.RowKit

def lcV (vs : List (ByteArray × Int)) (rs : List RecD) (us : List Int) : Int := if keyedB vs rs us = true then leastTo (csL vs us rs) (csL vs us rs).length else 0

set_option maxRecDepth 100000 in
set_option maxHeartbeats 2000000 in
theorem min_any (A : Option Addr) (n c : Nat) (xs : List Int) (w : World) (h0 : 0 < n) (hx : Ints w A n xs) (hn : n ≤ 1000000) (hp : ∀ j, j < n → 1 ≤ xs[j]?.getD 0) :
    Calls Try.prog 96 #[.slice A n c] w fun e w' => e = .returned (.int .i64 (leastTo xs n)) ∧ w = w' := by
  obtain ⟨ad, rfl, hc0⟩ := hx.at_ h0
  have hc00 : w.cell? ad = some (.int .i64 (xs[0]?.getD 0)) := by have := hc0; simpa [Addr.add] using this
  have HP := Lib.hid hp
  have HX := Lib.hid hx
  have HL := Lib.hid (fun j => leastTo_pos (n := n) hp j)
  have H1 := Lib.hid (leastTo_one xs)
  clear hp hx hc0
  go_enter Try.func96, Try.ntmps96
  go_wp2
  go_loopw [3, 4] (fun m i wr => ∃ k : Nat, 0 < k ∧ k ≤ n ∧ i = .int .i64 k ∧ m = .int .i64 (leastTo xs k) ∧ w = wr) (fun _ i _ => n - (intOf i).toNat)
  case atStart => exact ⟨1, by omega, h0, rfl, by rw [H1.out], rfl⟩
  case round =>
    clear hc00
    obtain ⟨k, hk0, hk, rfl, rfl, rfl⟩ := hrel
    by_cases hlt : k < n
    · obtain ⟨ad', e, hc⟩ := HX.out.at_ hlt
      simp only [Option.some.injEq] at e
      subst e
      have hm := HL.out k hk0 hk
      have HY := Lib.hid (fun h => leastTo_yes (xs := xs) (j := k) h)
      have HN := Lib.hid (fun h => leastTo_no (xs := xs) (j := k) h)
      generalize leastTo xs k = m at *
      generalize xs[k]?.getD 0 = x at *
      by_cases hlx : x < m
      · have HE := Lib.hid (HY.out (.inr hlx))
        clear HY HN
        go_wp2
        go_roundw
        case rel => exact ⟨k + 1, by omega, by omega, by go_num, by rw [HE.out], trivial⟩
        case measure => simp [intOf]; omega
      · have HE := Lib.hid (HN.out (by omega))
        clear HY HN
        go_wp2
        go_roundw
        case rel => exact ⟨k + 1, by omega, by omega, by go_num, by rw [HE.out], trivial⟩
        case measure => simp [intOf]; omega
    · obtain rfl : k = n := by omega
      go_wp2
      go_ret
      exact ⟨rfl, rfl⟩

set_option maxRecDepth 100000 in
set_option maxHeartbeats 2000000 in
theorem implLeastClass_law (A B U : Option Addr) (n c m d l k' : Nat) (vs : List (ByteArray × Int)) (rs : List RecD) (us : List Int) (w : World) (hx : SchR w A n c vs) (hy : DatR w B m rs) (hu : IntR w U l us) :
    Calls Try.prog 41 #[.slice A n c, .slice B m d, .slice U l k'] w fun e w' => e = .returned (.tuple #[.int .i64 (lcV vs rs us), .bool (keyedB vs rs us)]) ∧ Below w.heap.size w w' := by
  have hlen := hx.len
  cases hB : keyedB vs rs us
  · have HB := Lib.hid hB
    have HN := Lib.hid (show lcV vs rs us = 0 by rw [lcV, if_neg (by simp [hB])])
    rw [HN.out]
    clear hB hlen
    go_enter Try.func41, Try.ntmps41
    go_wp2_with fail
    refine (areKeyed_any _ _ _ n _ m _ l _ vs rs us _ hx hy hu).mono ?_
    rintro e w1 ⟨rfl, b1⟩
    rw [HB.out]
    have B1 := Lib.hid b1
    clear b1 hx hy hu
    go_wp2
    go_ret2
    exact ⟨rfl, B1.out⟩
  · have HB := Lib.hid hB
    have hk := keyed_all hlen hB
    have hm40 : m ≤ 40 := by have := hk.forty; rw [hy.len] at this; exact this
    have HM := Lib.hid (show (csL vs us rs).length = m by rw [csL_len, hy.len])
    have HN := Lib.hid (show lcV vs rs us = leastTo (csL vs us rs) m by rw [lcV, if_pos hB, HM.out])
    have HP := Lib.hid (fun (j : Nat) (hj : j < m) => csL_pos (vs := vs) (us := us) (rs := rs) (i := j) (by rw [HM.out]; exact hj))
    rw [HN.out]
    clear hB hlen
    go_enter Try.func41, Try.ntmps41
    go_wp2_with fail
    refine (areKeyed_any _ _ _ n _ m _ l _ vs rs us _ hx hy hu).mono ?_
    rintro e w1 ⟨rfl, b1⟩
    rw [HB.out]
    rcases Nat.eq_zero_or_pos m with rfl | hm0
    · have B1 := Lib.hid b1
      clear b1 hx hy hu
      go_wp2
      go_ret2
      exact ⟨rfl, B1.out⟩
    · go_wp2_with fail
      refine (classSizes_any _ _ _ n _ m _ l _ vs rs us _ (hx.below b1) (hy.below b1) (hu.below b1) hk).mono ?_
      rintro e w2 ⟨A2, c2, rfl, o2, b2⟩
      have B2 := Lib.hid (b1.trans (b2.mono b1.size))
      have O2 := Lib.hid o2.ints
      clear b1 b2 o2 hx hy hu
      go_wp2_with fail
      refine (min_any A2 m c2 (csL vs us rs) _ hm0 O2.out (by omega) HP.out).mono ?_
      rintro e w3 ⟨rfl, rfl⟩
      go_wp2
      go_ret2
      exact ⟨rfl, B2.out⟩

set_option maxRecDepth 100000 in
set_option maxHeartbeats 2000000 in
theorem specLeastClass_law (A B U : Option Addr) (n c m d l k' : Nat) (vs : List (ByteArray × Int)) (rs : List RecD) (us : List Int) (w : World) (hx : SchR w A n c vs) (hy : DatR w B m rs) (hu : IntR w U l us) :
    Calls Try.prog 42 #[.slice A n c, .slice B m d, .slice U l k'] w fun e w' => e = .returned (.tuple #[.int .i64 (lcV vs rs us), .bool (keyedB vs rs us)]) ∧ Below w.heap.size w w' := by
  have hlen := hx.len
  cases hB : keyedB vs rs us
  · have HN := Lib.hid (show lcV vs rs us = 0 by rw [lcV, if_neg (by simp [hB])])
    have HC := specClassSizes_law A B U n c m d l k' vs rs us w hx hy hu
    rw [hB] at HC
    rw [HN.out]
    clear hB hlen
    go_enter Try.func42, Try.ntmps42
    go_wp2_with fail
    refine HC.mono ?_
    clear HC
    rintro e w1 ⟨A1, c1, rfl, o1, b1⟩
    have B1 := Lib.hid b1
    clear b1 hx hy hu o1
    go_wp2
    go_ret2
    exact ⟨rfl, B1.out⟩
  · have hk := keyed_all hlen hB
    have hm40 : m ≤ 40 := by have := hk.forty; rw [hy.len] at this; exact this
    have HM := Lib.hid (show (csL vs us rs).length = m by rw [csL_len, hy.len])
    have HN := Lib.hid (show lcV vs rs us = leastTo (csL vs us rs) m by rw [lcV, if_pos hB, HM.out])
    have HC := specClassSizes_law A B U n c m d l k' vs rs us w hx hy hu
    rw [hB, show csV vs rs us = csL vs us rs by rw [csV, if_pos hB]] at HC
    rw [HN.out]
    clear hB hlen HN
    obtain ⟨xs, hxs⟩ : ∃ xs, csL vs us rs = xs := ⟨_, rfl⟩
    rw [hxs] at HM HC ⊢
    clear hxs
    go_enter Try.func42, Try.ntmps42
    go_wp2_with fail
    refine HC.mono ?_
    clear HC
    rintro e w1 ⟨A1, c1, rfl, o1, b1⟩
    rw [HM.out] at o1 ⊢
    have O1 := Lib.hid o1.ints
    have B1 := Lib.hid b1
    clear b1 hx hy hu o1
    go_wp2_with fail
    go_loopw [10, 24] (fun b i wr => ∃ k : Nat, k ≤ m ∧ i = .int .i64 k ∧ b = .int .i64 (leastTo xs k) ∧ w1 = wr) (fun _ i _ => m - (intOf i).toNat)
    case atStart => exact ⟨0, Nat.zero_le _, rfl, rfl, rfl⟩
    case round =>
      obtain ⟨k, hk, rfl, rfl, rfl⟩ := hrel
      by_cases hlt : k < m
      · obtain ⟨ad, rfl, hc⟩ := O1.out.at_ hlt
        have HY := Lib.hid (fun h => leastTo_yes (xs := xs) (j := k) h)
        have HN := Lib.hid (fun h => leastTo_no (xs := xs) (j := k) h)
        generalize leastTo xs k = q at *
        generalize xs[k]?.getD 0 = x at *
        by_cases hlx : q = 0 ∨ x < q
        · have HE := Lib.hid (HY.out hlx)
          have hd : (decide (q = 0) || decide (x < q)) = true := by simpa using hlx
          clear HY HN
          by_cases hq0 : q = 0
          · subst hq0
            go_wp2
            go_roundw
            case rel => exact ⟨k + 1, by omega, by go_num, by rw [HE.out], trivial⟩
            case measure => simp [intOf]; omega
          · have hq1 : (q == 0) = false := by simpa using hq0
            have hlx2 : x < q := by omega
            clear hlx hd hq0
            go_wp2
            go_roundw
            case rel => exact ⟨k + 1, by omega, by go_num, by rw [HE.out], trivial⟩
            case measure => simp [intOf]; omega
        · have HE := Lib.hid (HN.out hlx)
          have hq1 : (q == 0) = false := by simp; omega
          have hlx2 : ¬ x < q := by omega
          clear HY HN hlx
          go_wp2
          go_roundw
          case rel => exact ⟨k + 1, by omega, by go_num, by rw [HE.out], trivial⟩
          case measure => simp [intOf]; omega
      · obtain rfl : k = m := by omega
        go_wp2
        go_ret2
        exact ⟨rfl, B1.out⟩
end

section
open Go.RowKit

theorem links_one {vs : List (ByteArray × Int)} {rs : List RecD} {us : List Int} (h : keyedB vs rs us = true) : ∃ N : Nat → Nat, N 0 = 0 ∧ N (csV vs rs us).length = (uqV vs rs us).length ∧ (∀ i, N i ≤ i) ∧ ∀ i, i < (csV vs rs us).length → 1 ≤ (csV vs rs us)[i]?.getD 0 ∧ ((csV vs rs us)[i]?.getD 0 = 1 → N (i + 1) = N i + 1 ∧ N i < (uqV vs rs us).length ∧ (uqV vs rs us)[N i]?.getD 0 = (i : Int)) ∧ ((csV vs rs us)[i]?.getD 0 ≠ 1 → N (i + 1) = N i) := by
  have e1 : csV vs rs us = csL vs us rs := by rw [csV, if_pos h]
  have e2 : uqV vs rs us = uqL vs us rs := by rw [uqV, if_pos h]
  rw [e1, e2]
  refine ⟨uqN vs us rs, rfl, by rw [csL_len]; rfl, uqN_le, fun i hi => ⟨csL_pos hi, fun h1 => uqN_yes (by rw [csL_len] at hi; exact hi) h1, fun h1 => uqN_no (by rw [csL_len] at hi; exact hi) h1⟩⟩
theorem links_two {vs : List (ByteArray × Int)} {rs qs : List RecD} {us : List Int} {j : Nat} (h : j < (clR vs rs qs us).length) : ∃ (t : Nat) (v : Int), t < lsN vs rs qs us ∧ (clR vs rs qs us)[j]?.getD [] = [(t : Int), v] ∧ setL vs us rs qs t = [v] := by
  cases hB : linkedB vs rs qs us
  · rw [clR, if_neg (by simp [hB])] at h
    exact absurd h (by simp)
  · rw [clR, if_pos hB] at h ⊢
    rw [lsN_yes hB]
    obtain ⟨t, ht, e, h1⟩ := pairsL_at h
    refine ⟨t, (setL vs us rs qs t)[0]?.getD 0, ht, e, ?_⟩
    match hs : setL vs us rs qs t, h1 with
    | [a], _ => rfl
theorem clR_rowL (vs : List (ByteArray × Int)) (rs qs : List RecD) (us : List Int) (j : Nat) : ((clR vs rs qs us)[j]?.getD []).length ≤ 1099511627776 := by
  rcases Nat.lt_or_ge j (clR vs rs qs us).length with h | h
  · obtain ⟨t, v, _, e, _⟩ := links_two h
    rw [e]
    simp
  · rw [List.getElem?_eq_none h]
    simp
end
end Go.Proofs.Ytgeilnkglbcmeaa
