/- The members of a small set of bits; lists compared; of the program and of the reference. -/
import Derived.Test.YthphjfelpbfdmaaClass
namespace Go.Proofs.Ythphjfelpbfdmaa
open Go.RowKit

theorem and_1 (x : Int) (h0 : 0 ≤ x) (h1 : x < 9223372036854775808) : bits .and .i64 x 1 = x % 2 := by
  obtain ⟨n, rfl⟩ := Int.eq_ofNat_of_zero_le h0
  show IntKind.i64.wrap ((BitVec.ofInt 64 (n : Int) &&& BitVec.ofInt 64 1).toNat : Int) = _
  rw [BitVec.toNat_and, BitVec.ofInt_natCast, BitVec.toNat_ofNat, Nat.mod_eq_of_lt (by omega), show (BitVec.ofInt 64 1).toNat = 1 from rfl, Nat.and_one_is_mod, IntKind.wrap_i64]
  omega
def memP (x : Int) (t : Nat) : Bool := decide (x / 2 ^ t % 2 = 1)
def memV (x : Int) : List Int := linkK (memP x) 6
theorem div_pow {x : Int} (h0 : 0 ≤ x) (t : Nat) : 0 ≤ x / 2 ^ t ∧ x / 2 ^ t ≤ x := by
  have hp : (0 : Int) < 2 ^ t := Int.pow_pos (by omega)
  exact ⟨Int.ediv_nonneg h0 (by omega), Int.ediv_le_self _ h0⟩
theorem div_pow_succ (x : Int) (t : Nat) : x / 2 ^ (t + 1) = x / 2 ^ t / 2 := by
  rw [Int.pow_succ, Int.ediv_ediv_of_nonneg (Int.le_of_lt (Int.pow_pos (by omega)))]
theorem div_pow_zero {x : Int} {j : Nat} (h : x / 2 ^ j = 0) : ∀ t, j ≤ t → x / 2 ^ t = 0 := by
  intro t
  induction t with
  | zero => intro ht; obtain rfl : j = 0 := by omega
            exact h
  | succ t ih =>
    intro ht
    rcases Nat.lt_or_ge t j with h1 | h1
    · obtain rfl : j = t + 1 := by omega
      exact h
    · rw [div_pow_succ, ih h1]; rfl
theorem memP_zero {x : Int} {j t : Nat} (h : x / 2 ^ j = 0) (ht : j ≤ t) : memP x t = false := by
  unfold memP; rw [div_pow_zero h t ht]; rfl
theorem link_stop {p : Nat → Bool} {j : Nat} (h : ∀ t, j ≤ t → p t = false) : ∀ k, linkK p (j + k) = linkK p j := by
  intro k
  induction k with
  | zero => rfl
  | succ k ih => rw [← Nat.add_assoc, linkK_no (h _ (by omega)), ih]
theorem memV_stop {x : Int} {j : Nat} (h : x / 2 ^ j = 0) (hj : j ≤ 6) : linkK (memP x) j = memV x := by
  have := link_stop (p := memP x) (fun t ht => memP_zero h ht) (6 - j)
  rw [show j + (6 - j) = 6 by omega] at this
  exact this.symm
theorem div_small {x : Int} {n : Nat} (h0 : 0 ≤ x) (h1 : x < 2 ^ n) : x / 2 ^ n = 0 := Int.ediv_eq_zero_of_lt h0 h1
theorem linkK_at {p : Nat → Bool} {n i : Nat} (h : i < (linkK p n).length) : ∃ t, t < n ∧ (linkK p n)[i]?.getD 0 = (t : Int) ∧ ((List.range n).filter p)[i]? = some t := by
  have hl : (linkK p n).length = ((List.range n).filter p).length := by simp [linkK]
  have hi : i < ((List.range n).filter p).length := by omega
  refine ⟨((List.range n).filter p)[i], ?_, ?_, List.getElem?_eq_getElem hi⟩
  · have := List.getElem_mem hi
    rw [List.mem_filter, List.mem_range] at this
    exact this.1
  · simp only [linkK, List.getElem?_map, List.getElem?_eq_getElem hi]; rfl
theorem linkK_ris (p : Nat → Bool) (n : Nat) : risB (linkK p n) n = true := by
  refine allTo_yes fun i hi => ?_
  obtain ⟨t, ht, e, eg⟩ := linkK_at hi
  refine risOk_yes (by omega) (by omega) fun h0 => ?_
  obtain ⟨s, hs, e2, eg2⟩ := linkK_at (show i - 1 < (linkK p n).length by omega)
  rw [e, e2]
  have hp : List.Pairwise (· < ·) ((List.range n).filter p) := List.Pairwise.filter _ List.pairwise_lt_range
  obtain ⟨h1, h1'⟩ := List.getElem?_eq_some_iff.1 eg
  obtain ⟨h2, h2'⟩ := List.getElem?_eq_some_iff.1 eg2
  have := List.pairwise_iff_getElem.1 hp (i - 1) i h2 h1 (by omega)
  rw [h1', h2'] at this
  omega
theorem memV_ris {x : Int} {n : Nat} (h0 : 0 ≤ x) (h1 : x < 2 ^ n) (hn : n ≤ 6) : risB (memV x) n = true := by
  rw [← memV_stop (div_small h0 h1) hn]
  exact linkK_ris _ _

set_option maxHeartbeats 1000000 in
theorem membersOf_any (x : Int) (w : World) (h0 : 0 ≤ x) (h1 : x < 64) :
    Calls Try.prog 112 #[.int .i64 x] w fun e w' => ∃ A' c', e = .returned (.slice A' (memV x).length c') ∧ OwnI w' w.heap.size w'.heap.size A' (memV x).length c' (memV x) ∧ Below w.heap.size w w' := by
  have HS := Lib.hid (fun j hj h => memV_stop (x := x) (j := j) h hj)
  have H6 := Lib.hid (div_small (n := 6) h0 (by omega))
  have HD := Lib.hid (fun t => div_pow h0 t)
  go_enter Try.func112, Try.ntmps112
  go_wp2
  go_loopw [3, 4] (fun a i wr => ∃ (j : Nat) (B : Option Addr) (c2 : Nat), j ≤ 6 ∧ i = .int .i64 j ∧ a = .slice B (linkK (memP x) j).length c2 ∧ Own wr w.heap.size B (linkK (memP x) j).length c2 (linkK (memP x) j) ∧ Below w.heap.size w wr) (fun _ i _ => 7 - (intOf i).toNat)
  case atStart => exact ⟨0, none, 0, Nat.zero_le _, rfl, rfl, Own.nil_, Below.refl _ _⟩
  case round =>
    obtain ⟨j, B, c2, hj, rfl, rfl, hown, hbw⟩ := hrel
    have hkl := linkK_len (memP x) j
    have hd := HD.out j
    have hsz := hbw.size
    have HSj := Lib.hid (HS.out j hj)
    have hv6 : ¬ j < 6 → x / 2 ^ j = 0 := fun h => by obtain rfl : j = 6 := by omega
                                                      exact H6.out
    have HP := Lib.hid (show memP x j = decide (x / 2 ^ j % 2 = 1) from rfl)
    have HA := Lib.hid (and_1 (x / 2 ^ j) hd.1 (by omega))
    by_cases hz : x / 2 ^ j = 0
    · have R := Lib.hid (HSj.out hz)
      rw [R.out] at hown hkl ⊢
      clear hv6
      go_wp2
      go_ret
      exact ⟨B, c2, rfl, OwnI.of_own hown (by omega), hbw⟩
    · have hj6 : j < 6 := by
        rcases Nat.lt_or_ge j 6 with h | h
        · exact h
        · exact absurd (hv6 (by omega)) hz
      clear hv6 HSj HS
      obtain ⟨v, hv⟩ : ∃ v, x / 2 ^ j = v := ⟨_, rfl⟩
      rw [hv] at hz hd HP HA
      have hz' : (v != 0) = true := by simp [hz]
      have hz2 : 0 < v := by omega
      clear hz
      by_cases hb : v % 2 = 1
      · have HJ := Lib.hid (linkK_yes (p := memP x) (k := j) (by rw [HP.out]; simp [hb]))
        have HJ2 := Lib.hid (show (linkK (memP x) (j + 1)).length = (linkK (memP x) j).length + 1 by rw [HJ.out]; simp)
        have hA := HA.out
        rw [hb] at hA
        clear hb
        generalize linkK (memP x) j = K0 at *
        generalize K0.length = k0 at *
        go_wp2_with (at_builtin; refine wp_app1 (v := (j : Int)) rfl _ _ rfl w.heap.size B k0 c2 K0 rfl hown _ rfl rfl (by omega) hsz ?_; intro A3 c3 w3 hown3 hg3 _)
        have hb3 := Lib.hid (below_write hbw hg3 hsz (fun k hk => (hown.row_ge k hk).1))
        rw [← HJ.out] at hown3
        have HO := Lib.hid hown3
        clear hown hbw hg3 hown3 hv hA
        go_wp2
        go_roundw
        case rel => exact ⟨j + 1, A3, c3, by omega, by go_num, by rw [HJ2.out], by rw [HJ2.out]; exact HO.out, hb3.out⟩
        case measure => simp [intOf]; omega
      · have HJ := Lib.hid (linkK_no (p := memP x) (k := j) (by rw [HP.out]; simp [hb]))
        have hb0 : v % 2 = 0 := by omega
        have hA := HA.out
        rw [hb0] at hA
        clear hb hb0
        go_wp2
        go_roundw
        case rel => exact ⟨j + 1, B, c2, by omega, by go_num, by rw [HJ.out], by rw [HJ.out]; exact hown, hbw⟩
        case measure => simp [intOf]; omega

set_option maxHeartbeats 1000000 in
theorem eLevels_any (x : Int) (w : World) (h0 : 0 ≤ x) (h1 : x < 64) :
    Calls Try.prog 109 #[.int .i64 x] w fun e w' => ∃ A' c', e = .returned (.slice A' (memV x).length c') ∧ OwnI w' w.heap.size w'.heap.size A' (memV x).length c' (memV x) ∧ Below w.heap.size w w' := by
  have HS := Lib.hid (fun j hj h => memV_stop (x := x) (j := j) h hj)
  have H6 := Lib.hid (div_small (n := 6) h0 (by omega))
  have HD := Lib.hid (fun t => div_pow h0 t)
  go_enter Try.func109, Try.ntmps109
  go_wp2
  go_loopw [3, 4] (fun a i wr => ∃ (j : Nat) (B : Option Addr) (c2 : Nat), j ≤ 6 ∧ i = .int .i64 j ∧ a = .slice B (linkK (memP x) j).length c2 ∧ Own wr w.heap.size B (linkK (memP x) j).length c2 (linkK (memP x) j) ∧ Below w.heap.size w wr) (fun _ i _ => 7 - (intOf i).toNat)
  case atStart => exact ⟨0, none, 0, Nat.zero_le _, rfl, rfl, Own.nil_, Below.refl _ _⟩
  case round =>
    obtain ⟨j, B, c2, hj, rfl, rfl, hown, hbw⟩ := hrel
    have hkl := linkK_len (memP x) j
    have hd := HD.out j
    have hsz := hbw.size
    have HSj := Lib.hid (HS.out j hj)
    have hv6 : ¬ j < 6 → x / 2 ^ j = 0 := fun h => by obtain rfl : j = 6 := by omega
                                                      exact H6.out
    have HP := Lib.hid (show memP x j = decide (x / 2 ^ j % 2 = 1) from rfl)
    have HA := Lib.hid (and_1 (x / 2 ^ j) hd.1 (by omega))
    by_cases hz : x / 2 ^ j = 0
    · have R := Lib.hid (HSj.out hz)
      rw [R.out] at hown hkl ⊢
      clear hv6
      go_wp2
      go_ret
      exact ⟨B, c2, rfl, OwnI.of_own hown (by omega), hbw⟩
    · have hj6 : j < 6 := by
        rcases Nat.lt_or_ge j 6 with h | h
        · exact h
        · exact absurd (hv6 (by omega)) hz
      clear hv6 HSj HS
      obtain ⟨v, hv⟩ : ∃ v, x / 2 ^ j = v := ⟨_, rfl⟩
      rw [hv] at hz hd HP HA
      have hz' : (v != 0) = true := by simp [hz]
      have hz2 : 0 < v := by omega
      clear hz
      by_cases hb : v % 2 = 1
      · have HJ := Lib.hid (linkK_yes (p := memP x) (k := j) (by rw [HP.out]; simp [hb]))
        have HJ2 := Lib.hid (show (linkK (memP x) (j + 1)).length = (linkK (memP x) j).length + 1 by rw [HJ.out]; simp)
        have hA := HA.out
        rw [hb] at hA
        clear hb
        generalize linkK (memP x) j = K0 at *
        generalize K0.length = k0 at *
        go_wp2_with (at_builtin; refine wp_app1 (v := (j : Int)) rfl _ _ rfl w.heap.size B k0 c2 K0 rfl hown _ rfl rfl (by omega) hsz ?_; intro A3 c3 w3 hown3 hg3 _)
        have hb3 := Lib.hid (below_write hbw hg3 hsz (fun k hk => (hown.row_ge k hk).1))
        rw [← HJ.out] at hown3
        have HO := Lib.hid hown3
        clear hown hbw hg3 hown3 hv hA
        go_wp2
        go_roundw
        case rel => exact ⟨j + 1, A3, c3, by omega, by go_num, by rw [HJ2.out], by rw [HJ2.out]; exact HO.out, hb3.out⟩
        case measure => simp [intOf]; omega
      · have HJ := Lib.hid (linkK_no (p := memP x) (k := j) (by rw [HP.out]; simp [hb]))
        have hb0 : v % 2 = 0 := by omega
        have hA := HA.out
        rw [hb0] at hA
        clear hb hb0
        go_wp2
        go_roundw
        case rel => exact ⟨j + 1, B, c2, by omega, by go_num, by rw [HJ.out], by rw [HJ.out]; exact hown, hbw⟩
        case measure => simp [intOf]; omega

/-- xs comes ahead of ys. -/
def LexLt (xs ys : List Int) : Prop := (∃ k, k < xs.length ∧ k < ys.length ∧ (∀ t, t < k → xs[t]?.getD 0 = ys[t]?.getD 0) ∧ xs[k]?.getD 0 < ys[k]?.getD 0) ∨ ((∀ t, t < xs.length → t < ys.length → xs[t]?.getD 0 = ys[t]?.getD 0) ∧ xs.length < ys.length)
theorem lex_yes {xs ys : List Int} {n m k : Nat} (hx : xs.length = n) (hy : ys.length = m) (h1 : k < n) (h2 : k < m) (he : ∀ t, t < k → xs[t]?.getD 0 = ys[t]?.getD 0) (hl : xs[k]?.getD 0 < ys[k]?.getD 0) : LexLt xs ys := .inl ⟨k, by omega, by omega, he, hl⟩
theorem lex_no {xs ys : List Int} {n m k : Nat} (hx : xs.length = n) (hy : ys.length = m) (h1 : k < n) (h2 : k < m) (he : ∀ t, t < k → xs[t]?.getD 0 = ys[t]?.getD 0) (hl : ys[k]?.getD 0 < xs[k]?.getD 0) : ¬ LexLt xs ys := by
  rintro (⟨k', h3, h4, he', hl'⟩ | ⟨he', _⟩)
  · rcases Nat.lt_trichotomy k' k with h | h | h
    · have := he k' h; omega
    · subst h; omega
    · have := he' k h; omega
  · have := he' k (by omega) (by omega); omega
theorem lex_end {xs ys : List Int} {n m k : Nat} (hx : xs.length = n) (hy : ys.length = m) (h : k = n ∨ k = m) (he : ∀ t, t < k → xs[t]?.getD 0 = ys[t]?.getD 0) (_hk : k ≤ n ∧ k ≤ m) : LexLt xs ys ↔ n < m := by
  constructor
  · rintro (⟨k', h3, h4, he', hl'⟩ | ⟨_, hl⟩)
    · have := he k' (by omega); omega
    · omega
  · intro hlt
    exact .inr ⟨fun t h1 h2 => he t (by omega), by omega⟩
/-- A number that tells which list comes ahead. -/
def Told (w : World) (xs ys : List Int) (e : Ending) (w' : World) : Prop := ∃ r : Int, e = .returned (.int .i64 r) ∧ (r < 0 ↔ LexLt xs ys) ∧ Below w.heap.size w w'

set_option maxHeartbeats 400000 in
theorem isNaN_any (x : Int) (w : World) : Calls Try.prog 148 #[.int .i64 x] w fun e w' => e = .returned (.bool false) ∧ w = w' := by
  go_enter Try.func148, Try.ntmps148
  go_wp2
  go_ret
  exact ⟨rfl, rfl⟩
def cmpV (x y : Int) : Int := if x < y then -1 else if y < x then 1 else 0
set_option maxHeartbeats 400000 in
theorem cmpCompare_any (x y : Int) (w : World) : Calls Try.prog 139 #[.int .i64 x, .int .i64 y] w fun e w' => e = .returned (.int .i64 (cmpV x y)) ∧ w = w' := by
  by_cases h1 : x < y
  · have R := Lib.hid (show (-1 : Int) = cmpV x y by unfold cmpV; rw [if_pos h1])
    go_enter Try.func139, Try.ntmps139
    go_wp2_with (go_at_call 148; refine (isNaN_any _ _).mono ?_; rintro e w2 ⟨rfl, rfl⟩)
    go_ret
    exact ⟨ret_int R.out, rfl⟩
  · by_cases h2 : y < x
    · have R := Lib.hid (show (1 : Int) = cmpV x y by unfold cmpV; rw [if_neg h1, if_pos h2])
      go_enter Try.func139, Try.ntmps139
      go_wp2_with (go_at_call 148; refine (isNaN_any _ _).mono ?_; rintro e w2 ⟨rfl, rfl⟩)
      go_ret
      exact ⟨ret_int R.out, rfl⟩
    · have R := Lib.hid (show (0 : Int) = cmpV x y by unfold cmpV; rw [if_neg h1, if_neg h2])
      go_enter Try.func139, Try.ntmps139
      go_wp2_with (go_at_call 148; refine (isNaN_any _ _).mono ?_; rintro e w2 ⟨rfl, rfl⟩)
      go_ret
      exact ⟨ret_int R.out, rfl⟩

set_option maxHeartbeats 1000000 in
theorem compare_any (A A' : Option Addr) (n c n' c' : Nat) (xs ys : List Int) (w : World) (hx : IntR w A n xs) (hy : IntR w A' n' ys) :
    Calls Try.prog 113 #[.slice A n c, .slice A' n' c'] w (Told w xs ys) := by
  have hn := hx.bd
  have hn' := hy.bd
  have hl := Lib.hid hx.len
  have hl' := Lib.hid hy.len
  go_enter Try.func113, Try.ntmps113
  go_wp2
  go_loop [11] (fun i => ∃ k : Nat, k ≤ n ∧ k ≤ n' ∧ i = .int .i64 k ∧ Hid (∀ t, t < k → xs[t]?.getD 0 = ys[t]?.getD 0)) (fun i => n - (intOf i).toNat)
  case atStart => exact ⟨0, Nat.zero_le _, Nat.zero_le _, rfl, Lib.hid fun t ht => absurd ht (by omega)⟩
  case round =>
    obtain ⟨k, hk, hk', rfl, he⟩ := hrel
    by_cases hlt : k < n
    · obtain ⟨ad, rfl, hc⟩ := hx.i.at_ hlt
      by_cases hlt' : k < n'
      · obtain ⟨ad', rfl, hc'⟩ := hy.i.at_ hlt'
        have Y := Lib.hid (lex_yes hl.out hl'.out hlt hlt' he.out)
        have N := Lib.hid (lex_no hl.out hl'.out hlt hlt' he.out)
        have E := Lib.hid (fun h => all_succ (p := fun t => xs[t]?.getD 0 = ys[t]?.getD 0) he.out h)
        clear hx hy
        generalize xs[k]?.getD 0 = x at *
        generalize ys[k]?.getD 0 = y at *
        by_cases h1 : x < y
        · have R := Lib.hid (Y.out h1)
          have HC := Lib.hid (show cmpV x y = -1 by unfold cmpV; rw [if_pos h1])
          go_wp2_with (go_at_call 139; refine (cmpCompare_any _ _ _).mono ?_; rintro e w2 ⟨rfl, rfl⟩; rw [HC.out])
          go_ret
          exact ⟨_, rfl, ⟨fun _ => R.out, fun _ => by omega⟩, Below.refl _ _⟩
        · by_cases h2 : y < x
          · have R := Lib.hid (N.out h2)
            have HC := Lib.hid (show cmpV x y = 1 by unfold cmpV; rw [if_neg h1, if_pos h2])
            go_wp2_with (go_at_call 139; refine (cmpCompare_any _ _ _).mono ?_; rintro e w2 ⟨rfl, rfl⟩; rw [HC.out])
            go_ret
            exact ⟨_, rfl, ⟨fun h => absurd h (by omega), fun h => absurd h R.out⟩, Below.refl _ _⟩
          · have R := Lib.hid (E.out (by omega))
            have HC := Lib.hid (show cmpV x y = 0 by unfold cmpV; rw [if_neg h1, if_neg h2])
            go_wp2_with (go_at_call 139; refine (cmpCompare_any _ _ _).mono ?_; rintro e w2 ⟨rfl, rfl⟩; rw [HC.out])
            go_round
            case rel => exact ⟨k + 1, by omega, by omega, by go_num, R⟩
            case measure => simp [intOf]; omega
      · have R := Lib.hid (lex_end hl.out hl'.out (k := k) (by omega) he.out ⟨hk, hk'⟩)
        clear hx hy
        go_wp2
        go_ret
        exact ⟨_, rfl, ⟨fun h => absurd h (by omega), fun h => by have := R.out.1 h; omega⟩, Below.refl _ _⟩
    · have R := Lib.hid (lex_end hl.out hl'.out (k := k) (by omega) he.out ⟨hk, hk'⟩)
      clear hx hy
      by_cases h3 : n < n'
      · go_wp2
        go_ret
        exact ⟨_, rfl, ⟨fun _ => R.out.2 h3, fun _ => by omega⟩, Below.refl _ _⟩
      · go_wp2
        go_ret
        exact ⟨_, rfl, ⟨fun h => absurd h (by omega), fun h => by have := R.out.1 h; omega⟩, Below.refl _ _⟩

def signV (x : Int) : Int := if x < 0 then -1 else if 0 < x then 1 else 0
set_option maxHeartbeats 400000 in
theorem l1Sign_any (x : Int) (w : World) : Calls Try.prog 138 #[.int .i64 x] w fun e w' => e = .returned (.int .i64 (signV x)) ∧ w = w' := by
  by_cases h1 : x < 0
  · have R := Lib.hid (show (-1 : Int) = signV x by unfold signV; rw [if_pos h1])
    go_enter Try.func138, Try.ntmps138
    go_wp2
    go_ret
    exact ⟨ret_int R.out, rfl⟩
  · by_cases h2 : 0 < x
    · have R := Lib.hid (show (1 : Int) = signV x by unfold signV; rw [if_neg h1, if_pos h2])
      go_enter Try.func138, Try.ntmps138
      go_wp2
      go_ret
      exact ⟨ret_int R.out, rfl⟩
    · have R := Lib.hid (show (0 : Int) = signV x by unfold signV; rw [if_neg h1, if_neg h2])
      go_enter Try.func138, Try.ntmps138
      go_wp2
      go_ret
      exact ⟨ret_int R.out, rfl⟩

set_option maxHeartbeats 1000000 in
theorem l1Less_any (A A' : Option Addr) (n c n' c' : Nat) (xs ys : List Int) (w : World) (hx : IntR w A n xs) (hy : IntR w A' n' ys) :
    Calls Try.prog 110 #[.slice A n c, .slice A' n' c'] w (Told w xs ys) := by
  have hn := hx.bd
  have hn' := hy.bd
  have hl := Lib.hid hx.len
  have hl' := Lib.hid hy.len
  go_enter Try.func110, Try.ntmps110
  go_wp2
  go_loopw [5] (fun i wr => ∃ k : Nat, k ≤ n ∧ k ≤ n' ∧ i = .int .i64 k ∧ Hid (∀ t, t < k → xs[t]?.getD 0 = ys[t]?.getD 0) ∧ Below w.heap.size w wr) (fun i _ => n - (intOf i).toNat)
  case atStart => exact ⟨0, Nat.zero_le _, Nat.zero_le _, rfl, Lib.hid (fun t ht => absurd ht (by omega)), Below.refl _ _⟩
  case round =>
    obtain ⟨k, hk, hk', rfl, he, hbw⟩ := hrel
    have HB := Lib.hid hbw
    by_cases hlt : k < n
    · obtain ⟨ad, rfl, hc⟩ := (hx.below hbw).i.at_ hlt
      by_cases hlt' : k < n'
      · obtain ⟨ad', rfl, hc'⟩ := (hy.below hbw).i.at_ hlt'
        have Y := Lib.hid (lex_yes hl.out hl'.out hlt hlt' he.out)
        have N := Lib.hid (lex_no hl.out hl'.out hlt hlt' he.out)
        have E := Lib.hid (fun h => all_succ (p := fun t => xs[t]?.getD 0 = ys[t]?.getD 0) he.out h)
        clear hx hy hbw
        generalize xs[k]?.getD 0 = x at *
        generalize ys[k]?.getD 0 = y at *
        by_cases h0 : x = y
        · have R := Lib.hid (E.out h0)
          have hne : (x != y) = false := by simp [h0]
          clear h0
          go_wp2
          go_quiet (fail)
          go_wp2
          go_roundw
          case rel => exact ⟨k + 1, by omega, by omega, by go_num, R, below_drewN HB.out _⟩
          case measure => simp [intOf]; omega
        · have hne : (x != y) = true := by simp [h0]
          by_cases h1 : x < y
          · have R := Lib.hid (Y.out h1)
            clear h0
            go_wp2
            go_quiet (fail)
            go_wp2
            go_quiet (fail)
            go_wp2
            go_ret
            exact ⟨_, rfl, ⟨fun _ => R.out, fun _ => by omega⟩, below_drewN (below_drewN HB.out _) _⟩
          · have R := Lib.hid (N.out (by omega))
            clear h0
            go_wp2
            go_quiet (fail)
            go_wp2
            go_quiet (fail)
            go_wp2
            go_ret
            exact ⟨_, rfl, ⟨fun h => absurd h (by omega), fun h => absurd h R.out⟩, below_drewN (below_drewN HB.out _) _⟩
      · have R := Lib.hid (lex_end hl.out hl'.out (k := k) (by omega) he.out ⟨hk, hk'⟩)
        clear hx hy hbw
        go_wp2_with (go_at_call 138; refine (l1Sign_any _ _).mono ?_; rintro e w2 ⟨rfl, rfl⟩)
        go_ret
        exact ⟨_, rfl, ⟨fun h => (R.out.2 (by unfold signV at h; omega)), fun h => (by have := R.out.1 h; unfold signV; omega)⟩, HB.out⟩
    · have R := Lib.hid (lex_end hl.out hl'.out (k := k) (by omega) he.out ⟨hk, hk'⟩)
      clear hx hy hbw
      go_wp2_with (go_at_call 138; refine (l1Sign_any _ _).mono ?_; rintro e w2 ⟨rfl, rfl⟩)
      go_ret
      exact ⟨_, rfl, ⟨fun h => (R.out.2 (by unfold signV at h; split at h <;> omega)), fun h => (by have := R.out.1 h; unfold signV; rw [if_pos (by omega)]; omega)⟩, HB.out⟩

/-- A list has a number. -/
def hasB (xs : List Int) (v : Int) : Bool := !allTo (fun i => decide (xs[i]?.getD 0 ≠ v)) xs.length
theorem hasB_yes {xs : List Int} {v : Int} {n k : Nat} (hl : xs.length = n) (hk : k < n) (h : xs[k]?.getD 0 = v) : hasB xs v = true := by
  unfold hasB; rw [allTo_no (i := k) (by omega) (by simp [h])]; rfl
theorem hasB_no {xs : List Int} {v : Int} {n : Nat} (hl : xs.length = n) (h : ∀ k, k < n → xs[k]?.getD 0 ≠ v) : hasB xs v = false := by
  unfold hasB; rw [allTo_yes (fun i hi => by simpa using h i (by omega))]; rfl

set_option maxHeartbeats 1000000 in
theorem l1Has_any (A : Option Addr) (n c : Nat) (v : Int) (xs : List Int) (w : World) (hx : IntR w A n xs) :
    Calls Try.prog 92 #[.slice A n c, .int .i64 v] w fun e w' => e = .returned (.bool (hasB xs v)) ∧ w = w' := by
  have hn := hx.bd
  have hl := Lib.hid hx.len
  go_enter Try.func92, Try.ntmps92
  go_wp2
  go_loop [9] (fun i => ∃ k : Nat, k ≤ n ∧ i = .int .i64 k ∧ Hid (∀ t, t < k → xs[t]?.getD 0 ≠ v)) (fun i => n - (intOf i).toNat)
  case atStart => exact ⟨0, Nat.zero_le _, rfl, Lib.hid fun t ht => absurd ht (by omega)⟩
  case round =>
    obtain ⟨k, hk, rfl, he⟩ := hrel
    by_cases hlt : k < n
    · obtain ⟨ad, rfl, hc⟩ := hx.i.at_ hlt
      have Y := Lib.hid (hasB_yes (v := v) hl.out hlt)
      have E := Lib.hid (fun h => all_succ (p := fun t => xs[t]?.getD 0 ≠ v) he.out h)
      clear hx
      generalize xs[k]?.getD 0 = x at *
      by_cases h1 : x = v
      · have R := Lib.hid (Y.out h1).symm
        have hq : (x == v) = true := by simp [h1]
        clear h1
        go_wp2
        go_ret
        exact ⟨ret_bool R.out, rfl⟩
      · have R := Lib.hid (E.out h1)
        have hq : (x == v) = false := by simp [h1]
        clear h1
        go_wp2
        go_round
        case rel => exact ⟨k + 1, by omega, by go_num, R⟩
        case measure => simp [intOf]; omega
    · obtain rfl : k = n := by omega
      have R := Lib.hid (hasB_no hl.out he.out).symm
      clear hx
      go_wp2
      go_ret
      exact ⟨ret_bool R.out, rfl⟩

set_option maxHeartbeats 1000000 in
theorem slIndex_any (A : Option Addr) (n c : Nat) (v : Int) (xs : List Int) (w : World) (hx : IntR w A n xs) :
    Calls Try.prog 133 #[.slice A n c, .int .i64 v] w fun e w' => (∃ r : Int, e = .returned (.int .i64 r) ∧ (0 ≤ r ↔ hasB xs v = true)) ∧ w = w' := by
  have hn := hx.bd
  have hl := Lib.hid hx.len
  go_enter Try.func133, Try.ntmps133
  go_wp2
  go_loop [8] (fun i => ∃ k : Nat, k ≤ n ∧ i = .int .i64 k ∧ Hid (∀ t, t < k → xs[t]?.getD 0 ≠ v)) (fun i => n - (intOf i).toNat)
  case atStart => exact ⟨0, Nat.zero_le _, rfl, Lib.hid fun t ht => absurd ht (by omega)⟩
  case round =>
    obtain ⟨k, hk, rfl, he⟩ := hrel
    by_cases hlt : k < n
    · obtain ⟨ad, rfl, hc⟩ := hx.i.at_ hlt
      have Y := Lib.hid (hasB_yes (v := v) hl.out hlt)
      have E := Lib.hid (fun h => all_succ (p := fun t => xs[t]?.getD 0 ≠ v) he.out h)
      clear hx
      generalize xs[k]?.getD 0 = x at *
      by_cases h1 : x = v
      · have R := Lib.hid (Y.out h1)
        have hq : (v == x) = true := by simp [h1]
        clear h1
        go_wp2
        go_ret
        exact ⟨⟨_, rfl, ⟨fun _ => R.out, fun _ => by omega⟩⟩, rfl⟩
      · have R := Lib.hid (E.out h1)
        have hq : (v == x) = false := by simp [Ne.symm h1]
        clear h1
        go_wp2
        go_round
        case rel => exact ⟨k + 1, by omega, by go_num, R⟩
        case measure => simp [intOf]; omega
    · obtain rfl : k = n := by omega
      have R := Lib.hid (hasB_no hl.out he.out)
      clear hx
      go_wp2
      go_ret
      exact ⟨⟨_, rfl, ⟨fun h => absurd h (by omega), fun h => by rw [R.out] at h; cases h⟩⟩, rfl⟩

set_option maxHeartbeats 1000000 in
theorem contains_any (A : Option Addr) (n c : Nat) (v : Int) (xs : List Int) (w : World) (hx : IntR w A n xs) :
    Calls Try.prog 94 #[.slice A n c, .int .i64 v] w fun e w' => e = .returned (.bool (hasB xs v)) ∧ w = w' := by
  go_enter Try.func94, Try.ntmps94
  go_wp2_with fail
  refine (slIndex_any _ n _ v xs _ hx).mono ?_
  rintro e w1 ⟨⟨r, rfl, hr⟩, rfl⟩
  have R := Lib.hid (show decide (0 ≤ r) = hasB xs v by
    cases h : hasB xs v
    · exact decide_eq_false (fun h' => by rw [hr.1 h'] at h; cases h)
    · exact decide_eq_true (hr.2 h))
  clear hr hx
  go_wp2
  go_ret
  exact ⟨ret_bool R.out, rfl⟩
end Go.Proofs.Ythphjfelpbfdmaa
