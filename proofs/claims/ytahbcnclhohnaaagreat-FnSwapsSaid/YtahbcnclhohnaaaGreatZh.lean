/- Several small texts in one: Mems, DivP, Put, CertP. -/
import Derived.Test.YtahbcnclhohnaaaGreatClass
namespace Go.Proofs.YtahbcnclhohnaaaGreat

section
open Go.RowKit

theorem and_1 (x : Int) (h0 : 0 ≤ x) (h1 : x < 9223372036854775808) : bits .and .i64 x 1 = x % 2 := by
  obtain ⟨n, rfl⟩ := Int.eq_ofNat_of_zero_le h0
  show IntKind.i64.wrap ((BitVec.ofInt 64 (n : Int) &&& BitVec.ofInt 64 1).toNat : Int) = _
  rw [BitVec.toNat_and, BitVec.ofInt_natCast, BitVec.toNat_ofNat, Nat.mod_eq_of_lt (by omega), show (BitVec.ofInt 64 1).toNat = 1 from rfl, Nat.and_one_is_mod, IntKind.wrap_i64]
  omega
def memP (x : Int) (t : Nat) : Bool := decide (x / 2 ^ t % 2 = 1)
def memV (x : Int) : List Int := linkK (memP x) 6
theorem div_pow {x : Int} (h0 : 0 ≤ x) (t : Nat) : 0 ≤ x / 2 ^ t ∧ x / 2 ^ t ≤ x := by
  have hp : (0 : Int) < 2 ^ t := Int.pow_pos (by omega)
  exact ⟨Int.ediv_nonneg h0 (by omega), Int.ediv_le_self _ h0⟩
theorem div_pow_succ (x : Int) (t : Nat) : x / 2 ^ (t + 1) = x / 2 ^ t / 2 := by
  rw [Int.pow_succ, Int.ediv_ediv_of_nonneg (Int.le_of_lt (Int.pow_pos (by omega)))]
theorem div_pow_zero {x : Int} {j : Nat} (h : x / 2 ^ j = 0) : ∀ t, j ≤ t → x / 2 ^ t = 0 := by
  intro t
  induction t with
  | zero => intro ht; obtain rfl : j = 0 := by omega
            exact h
  | succ t ih =>
    intro ht
    rcases Nat.lt_or_ge t j with h1 | h1
    · obtain rfl : j = t + 1 := by omega
      exact h
    · rw [div_pow_succ, ih h1]; rfl
theorem memP_zero {x : Int} {j t : Nat} (h : x / 2 ^ j = 0) (ht : j ≤ t) : memP x t = false := by
  unfold memP; rw [div_pow_zero h t ht]; rfl
theorem link_stop {p : Nat → Bool} {j : Nat} (h : ∀ t, j ≤ t → p t = false) : ∀ k, linkK p (j + k) = linkK p j := by
  intro k
  induction k with
  | zero => rfl
  | succ k ih => rw [← Nat.add_assoc, linkK_no (h _ (by omega)), ih]
theorem memV_stop {x : Int} {j : Nat} (h : x / 2 ^ j = 0) (hj : j ≤ 6) : linkK (memP x) j = memV x := by
  have := link_stop (p := memP x) (fun t ht => memP_zero h ht) (6 - j)
  rw [show j + (6 - j) = 6 by omega] at this
  exact this.symm
theorem div_small {x : Int} {n : Nat} (h0 : 0 ≤ x) (h1 : x < 2 ^ n) : x / 2 ^ n = 0 := Int.ediv_eq_zero_of_lt h0 h1
theorem linkK_at {p : Nat → Bool} {n i : Nat} (h : i < (linkK p n).length) : ∃ t, t < n ∧ (linkK p n)[i]?.getD 0 = (t : Int) ∧ ((List.range n).filter p)[i]? = some t := by
  have hl : (linkK p n).length = ((List.range n).filter p).length := by simp [linkK]
  have hi : i < ((List.range n).filter p).length := by omega
  refine ⟨((List.range n).filter p)[i], ?_, ?_, List.getElem?_eq_getElem hi⟩
  · have := List.getElem_mem hi
    rw [List.mem_filter, List.mem_range] at this
    exact this.1
  · simp only [linkK, List.getElem?_map, List.getElem?_eq_getElem hi]; rfl
theorem linkK_ris (p : Nat → Bool) (n : Nat) : risB (linkK p n) n = true := by
  refine allTo_yes fun i hi => ?_
  obtain ⟨t, ht, e, eg⟩ := linkK_at hi
  refine risOk_yes (by omega) (by omega) fun h0 => ?_
  obtain ⟨s, hs, e2, eg2⟩ := linkK_at (show i - 1 < (linkK p n).length by omega)
  rw [e, e2]
  have hp : List.Pairwise (· < ·) ((List.range n).filter p) := List.Pairwise.filter _ List.pairwise_lt_range
  obtain ⟨h1, h1'⟩ := List.getElem?_eq_some_iff.1 eg
  obtain ⟨h2, h2'⟩ := List.getElem?_eq_some_iff.1 eg2
  have := List.pairwise_iff_getElem.1 hp (i - 1) i h2 h1 (by omega)
  rw [h1', h2'] at this
  omega
theorem memV_ris {x : Int} {n : Nat} (h0 : 0 ≤ x) (h1 : x < 2 ^ n) (hn : n ≤ 6) : risB (memV x) n = true := by
  rw [← memV_stop (div_small h0 h1) hn]
  exact linkK_ris _ _

/-- xs comes ahead of ys. -/
def LexLt (xs ys : List Int) : Prop := (∃ k, k < xs.length ∧ k < ys.length ∧ (∀ t, t < k → xs[t]?.getD 0 = ys[t]?.getD 0) ∧ xs[k]?.getD 0 < ys[k]?.getD 0) ∨ ((∀ t, t < xs.length → t < ys.length → xs[t]?.getD 0 = ys[t]?.getD 0) ∧ xs.length < ys.length)
theorem lex_yes {xs ys : List Int} {n m k : Nat} (hx : xs.length = n) (hy : ys.length = m) (h1 : k < n) (h2 : k < m) (he : ∀ t, t < k → xs[t]?.getD 0 = ys[t]?.getD 0) (hl : xs[k]?.getD 0 < ys[k]?.getD 0) : LexLt xs ys := .inl ⟨k, by omega, by omega, he, hl⟩
theorem lex_no {xs ys : List Int} {n m k : Nat} (hx : xs.length = n) (hy : ys.length = m) (h1 : k < n) (h2 : k < m) (he : ∀ t, t < k → xs[t]?.getD 0 = ys[t]?.getD 0) (hl : ys[k]?.getD 0 < xs[k]?.getD 0) : ¬ LexLt xs ys := by
  rintro (⟨k', h3, h4, he', hl'⟩ | ⟨he', _⟩)
  · rcases Nat.lt_trichotomy k' k with h | h | h
    · have := he k' h; omega
    · subst h; omega
    · have := he' k h; omega
  · have := he' k (by omega) (by omega); omega
theorem lex_end {xs ys : List Int} {n m k : Nat} (hx : xs.length = n) (hy : ys.length = m) (h : k = n ∨ k = m) (he : ∀ t, t < k → xs[t]?.getD 0 = ys[t]?.getD 0) (_hk : k ≤ n ∧ k ≤ m) : LexLt xs ys ↔ n < m := by
  constructor
  · rintro (⟨k', h3, h4, he', hl'⟩ | ⟨_, hl⟩)
    · have := he k' (by omega); omega
    · omega
  · intro hlt
    exact .inr ⟨fun t h1 h2 => he t (by omega), by omega⟩
/-- A number that tells which list comes ahead. -/
def Told (w : World) (xs ys : List Int) (e : Ending) (w' : World) : Prop := ∃ r : Int, e = .returned (.int .i64 r) ∧ (r < 0 ↔ LexLt xs ys) ∧ Below w.heap.size w w'

set_option maxHeartbeats 400000 in
theorem isNaN_any (x : Int) (w : World) : Calls Tryz.prog 94 #[.int .i64 x] w fun e w' => e = .returned (.bool false) ∧ w = w' := by
  go_enter Tryz.func94, Tryz.ntmps94
  go_wp2
  go_ret
  exact ⟨rfl, rfl⟩
def cmpV (x y : Int) : Int := if x < y then -1 else if y < x then 1 else 0
set_option maxHeartbeats 400000 in
theorem cmpCompare_any (x y : Int) (w : World) : Calls Tryz.prog 63 #[.int .i64 x, .int .i64 y] w fun e w' => e = .returned (.int .i64 (cmpV x y)) ∧ w = w' := by
  by_cases h1 : x < y
  · have R := Lib.hid (show (-1 : Int) = cmpV x y by unfold cmpV; rw [if_pos h1])
    go_enter Tryz.func63, Tryz.ntmps63
    go_wp2_with (go_at_call 94; refine (isNaN_any _ _).mono ?_; rintro e w2 ⟨rfl, rfl⟩)
    go_ret
    exact ⟨ret_int R.out, rfl⟩
  · by_cases h2 : y < x
    · have R := Lib.hid (show (1 : Int) = cmpV x y by unfold cmpV; rw [if_neg h1, if_pos h2])
      go_enter Tryz.func63, Tryz.ntmps63
      go_wp2_with (go_at_call 94; refine (isNaN_any _ _).mono ?_; rintro e w2 ⟨rfl, rfl⟩)
      go_ret
      exact ⟨ret_int R.out, rfl⟩
    · have R := Lib.hid (show (0 : Int) = cmpV x y by unfold cmpV; rw [if_neg h1, if_neg h2])
      go_enter Tryz.func63, Tryz.ntmps63
      go_wp2_with (go_at_call 94; refine (isNaN_any _ _).mono ?_; rintro e w2 ⟨rfl, rfl⟩)
      go_ret
      exact ⟨ret_int R.out, rfl⟩

set_option maxHeartbeats 1000000 in
theorem compare_any (A A' : Option Addr) (n c n' c' : Nat) (xs ys : List Int) (w : World) (hx : IntR w A n xs) (hy : IntR w A' n' ys) :
    Calls Tryz.prog 27 #[.slice A n c, .slice A' n' c'] w (Told w xs ys) := by
  have hn := hx.bd
  have hn' := hy.bd
  have hl := Lib.hid hx.len
  have hl' := Lib.hid hy.len
  go_enter Tryz.func27, Tryz.ntmps27
  go_wp2
  go_loop [11] (fun i => ∃ k : Nat, k ≤ n ∧ k ≤ n' ∧ i = .int .i64 k ∧ Hid (∀ t, t < k → xs[t]?.getD 0 = ys[t]?.getD 0)) (fun i => n - (intOf i).toNat)
  case atStart => exact ⟨0, Nat.zero_le _, Nat.zero_le _, rfl, Lib.hid fun t ht => absurd ht (by omega)⟩
  case round =>
    obtain ⟨k, hk, hk', rfl, he⟩ := hrel
    by_cases hlt : k < n
    · obtain ⟨ad, rfl, hc⟩ := hx.i.at_ hlt
      by_cases hlt' : k < n'
      · obtain ⟨ad', rfl, hc'⟩ := hy.i.at_ hlt'
        have Y := Lib.hid (lex_yes hl.out hl'.out hlt hlt' he.out)
        have N := Lib.hid (lex_no hl.out hl'.out hlt hlt' he.out)
        have E := Lib.hid (fun h => all_succ (p := fun t => xs[t]?.getD 0 = ys[t]?.getD 0) he.out h)
        clear hx hy
        generalize xs[k]?.getD 0 = x at *
        generalize ys[k]?.getD 0 = y at *
        by_cases h1 : x < y
        · have R := Lib.hid (Y.out h1)
          have HC := Lib.hid (show cmpV x y = -1 by unfold cmpV; rw [if_pos h1])
          go_wp2_with (go_at_call 63; refine (cmpCompare_any _ _ _).mono ?_; rintro e w2 ⟨rfl, rfl⟩; rw [HC.out])
          go_ret
          exact ⟨_, rfl, ⟨fun _ => R.out, fun _ => by omega⟩, Below.refl _ _⟩
        · by_cases h2 : y < x
          · have R := Lib.hid (N.out h2)
            have HC := Lib.hid (show cmpV x y = 1 by unfold cmpV; rw [if_neg h1, if_pos h2])
            go_wp2_with (go_at_call 63; refine (cmpCompare_any _ _ _).mono ?_; rintro e w2 ⟨rfl, rfl⟩; rw [HC.out])
            go_ret
            exact ⟨_, rfl, ⟨fun h => absurd h (by omega), fun h => absurd h R.out⟩, Below.refl _ _⟩
          · have R := Lib.hid (E.out (by omega))
            have HC := Lib.hid (show cmpV x y = 0 by unfold cmpV; rw [if_neg h1, if_neg h2])
            go_wp2_with (go_at_call 63; refine (cmpCompare_any _ _ _).mono ?_; rintro e w2 ⟨rfl, rfl⟩; rw [HC.out])
            go_round
            case rel => exact ⟨k + 1, by omega, by omega, by go_num, R⟩
            case measure => simp [intOf]; omega
      · have R := Lib.hid (lex_end hl.out hl'.out (k := k) (by omega) he.out ⟨hk, hk'⟩)
        clear hx hy
        go_wp2
        go_ret
        exact ⟨_, rfl, ⟨fun h => absurd h (by omega), fun h => by have := R.out.1 h; omega⟩, Below.refl _ _⟩
    · have R := Lib.hid (lex_end hl.out hl'.out (k := k) (by omega) he.out ⟨hk, hk'⟩)
      clear hx hy
      by_cases h3 : n < n'
      · go_wp2
        go_ret
        exact ⟨_, rfl, ⟨fun _ => R.out.2 h3, fun _ => by omega⟩, Below.refl _ _⟩
      · go_wp2
        go_ret
        exact ⟨_, rfl, ⟨fun h => absurd h (by omega), fun h => by have := R.out.1 h; omega⟩, Below.refl _ _⟩

/-- A list has a number. -/
def hasB (xs : List Int) (v : Int) : Bool := !allTo (fun i => decide (xs[i]?.getD 0 ≠ v)) xs.length
theorem hasB_yes {xs : List Int} {v : Int} {n k : Nat} (hl : xs.length = n) (hk : k < n) (h : xs[k]?.getD 0 = v) : hasB xs v = true := by
  unfold hasB; rw [allTo_no (i := k) (by omega) (by simp [h])]; rfl
theorem hasB_no {xs : List Int} {v : Int} {n : Nat} (hl : xs.length = n) (h : ∀ k, k < n → xs[k]?.getD 0 ≠ v) : hasB xs v = false := by
  unfold hasB; rw [allTo_yes (fun i hi => by simpa using h i (by omega))]; rfl

set_option maxHeartbeats 1000000 in
theorem l1Has_any (A : Option Addr) (n c : Nat) (v : Int) (xs : List Int) (w : World) (hx : IntR w A n xs) :
    Calls Tryz.prog 34 #[.slice A n c, .int .i64 v] w fun e w' => e = .returned (.bool (hasB xs v)) ∧ w = w' := by
  have hn := hx.bd
  have hl := Lib.hid hx.len
  go_enter Tryz.func34, Tryz.ntmps34
  go_wp2
  go_loop [9] (fun i => ∃ k : Nat, k ≤ n ∧ i = .int .i64 k ∧ Hid (∀ t, t < k → xs[t]?.getD 0 ≠ v)) (fun i => n - (intOf i).toNat)
  case atStart => exact ⟨0, Nat.zero_le _, rfl, Lib.hid fun t ht => absurd ht (by omega)⟩
  case round =>
    obtain ⟨k, hk, rfl, he⟩ := hrel
    by_cases hlt : k < n
    · obtain ⟨ad, rfl, hc⟩ := hx.i.at_ hlt
      have Y := Lib.hid (hasB_yes (v := v) hl.out hlt)
      have E := Lib.hid (fun h => all_succ (p := fun t => xs[t]?.getD 0 ≠ v) he.out h)
      clear hx
      generalize xs[k]?.getD 0 = x at *
      by_cases h1 : x = v
      · have R := Lib.hid (Y.out h1).symm
        have hq : (x == v) = true := by simp [h1]
        clear h1
        go_wp2
        go_ret
        exact ⟨ret_bool R.out, rfl⟩
      · have R := Lib.hid (E.out h1)
        have hq : (x == v) = false := by simp [h1]
        clear h1
        go_wp2
        go_round
        case rel => exact ⟨k + 1, by omega, by go_num, R⟩
        case measure => simp [intOf]; omega
    · obtain rfl : k = n := by omega
      have R := Lib.hid (hasB_no hl.out he.out).symm
      clear hx
      go_wp2
      go_ret
      exact ⟨ret_bool R.out, rfl⟩
end

section
open Go.RowKit

def dcR : List Int → Nat
  | [] => 0
  | a :: r => dcR r + (if a ∈ r then 0 else 1)
/-- How many different values a list has. -/
def dcnt (l : List Int) : Nat := dcR l.reverse
theorem dcnt_snoc (l : List Int) (a : Int) : dcnt (l ++ [a]) = dcnt l + (if a ∈ l then 0 else 1) := by
  unfold dcnt
  rw [List.reverse_append, List.reverse_singleton, List.singleton_append]
  simp only [dcR, List.mem_reverse]
theorem dcnt_le (l : List Int) : dcnt l ≤ l.length := by
  unfold dcnt
  rw [← List.length_reverse]
  generalize l.reverse = r
  induction r with
  | nil => simp [dcR]
  | cons a r ih => simp only [dcR, List.length_cons]; split <;> omega
/-- Strictly rising. -/
def Srt (xs : List Int) : Prop := List.Pairwise (· < ·) xs
/-- What the insertion gives. -/
def PutR (xs : List Int) (v : Int) (ys : List Int) : Prop :=
  ∃ k, k ≤ xs.length ∧ (∀ t, t < k → xs[t]?.getD 0 < v) ∧ ((k < xs.length ∧ xs[k]?.getD 0 = v ∧ ys = xs) ∨ ((k < xs.length → v < xs[k]?.getD 0) ∧ ys = xs.take k ++ [v] ++ xs.drop k))
theorem getD_mem {xs : List Int} {t : Nat} (h : t < xs.length) : xs[t]?.getD 0 ∈ xs := by
  rw [List.getElem?_eq_getElem h]; exact List.getElem_mem h
theorem put_law {xs ys : List Int} {v : Int} (hs : Srt xs) (h : PutR xs v ys) : Srt ys ∧ (∀ u, u ∈ ys ↔ u ∈ xs ∨ u = v) ∧ ys.length = xs.length + (if v ∈ xs then 0 else 1) := by
  obtain ⟨k, hk, hlt, h1⟩ := h
  rcases h1 with ⟨hkl, he, hy⟩ | ⟨hgt, rfl⟩
  · have hm : v ∈ xs := by rw [← he]; exact getD_mem hkl
    rw [hy]
    refine ⟨hs, fun u => ⟨.inl, ?_⟩, by simp [hm]⟩
    rintro (h | rfl)
    · exact h
    · exact hm
  · have ha : ∀ u ∈ xs.take k, u < v := fun u hu => by
      obtain ⟨t, ht, e⟩ := List.mem_iff_getElem.1 hu
      rw [List.length_take] at ht
      have := hlt t (by omega)
      rw [List.getElem?_eq_getElem (by omega)] at this
      rw [← e, List.getElem_take]; exact this
    have hb : ∀ u ∈ xs.drop k, v < u := fun u hu => by
      obtain ⟨t, ht, e⟩ := List.mem_iff_getElem.1 hu
      rw [List.length_drop] at ht
      rw [List.getElem_drop] at e
      have h2 := hgt (by omega)
      rw [List.getElem?_eq_getElem (by omega)] at h2
      rcases Nat.eq_zero_or_pos t with h0 | h0
      · subst h0; simp only [Nat.add_zero] at e; rw [← e]; exact h2
      · have := List.pairwise_iff_getElem.1 hs k (k + t) (by omega) (by omega) (by omega)
        rw [e] at this
        have h3 : v < xs[k] := h2
        omega
    have hnm : v ∉ xs := fun hm => by
      rw [← List.take_append_drop k xs, List.mem_append] at hm
      rcases hm with hm | hm
      · have := ha v hm; omega
      · have := hb v hm; omega
    refine ⟨?_, fun u => ?_, ?_⟩
    · unfold Srt at *
      rw [List.append_assoc, List.pairwise_append]
      refine ⟨hs.sublist (List.take_sublist k xs), ?_, fun x hx y hy => ?_⟩
      · rw [List.singleton_append, List.pairwise_cons]
        exact ⟨hb, hs.sublist (List.drop_sublist k xs)⟩
      · rw [List.singleton_append, List.mem_cons] at hy
        rcases hy with rfl | hy
        · exact ha x hx
        · have := ha x hx; have := hb y hy; omega
    · rw [List.mem_append, List.mem_append, List.mem_singleton]
      constructor
      · rintro ((h | h) | h)
        · exact .inl (List.mem_of_mem_take h)
        · exact .inr h
        · exact .inl (List.mem_of_mem_drop h)
      · rintro (h | h)
        · rw [← List.take_append_drop k xs, List.mem_append] at h
          rcases h with h | h
          · exact .inl (.inl h)
          · exact .inr h
        · exact .inl (.inr h)
    · simp [hnm]; omega

/-- One step of a rising list that holds what a list holds. -/
structure Holds (V l : List Int) : Prop where
  s : Srt V
  m : ∀ u, u ∈ V ↔ u ∈ l
  n : V.length = dcnt l
theorem Holds.nil_ : Holds [] [] := ⟨List.Pairwise.nil, fun _ => Iff.rfl, rfl⟩
theorem Holds.put {V l ys : List Int} {v : Int} (h : Holds V l) (hp : PutR V v ys) : Holds ys (l ++ [v]) := by
  obtain ⟨h1, h2, h3⟩ := put_law h.s hp
  refine ⟨h1, fun u => ?_, ?_⟩
  · rw [h2, List.mem_append, List.mem_singleton, h.m]
  · rw [h3, h.n, dcnt_snoc]
    by_cases e : v ∈ l
    · simp [e, (h.m v).2 e]
    · simp [e, mt (h.m v).1 e]
/-- The values of the records of one class. -/
def clsV (vs : List (ByteArray × Int)) (us : List Int) (rs : List RecD) (tg i j : Nat) : List Int := (linkK (lnk vs us rs rs i) j).map fun k => (rV rs k.toNat)[tg]?.getD 0
theorem clsV_yes {vs : List (ByteArray × Int)} {us : List Int} {rs : List RecD} {tg i j : Nat} (h : lnk vs us rs rs i j = true) : clsV vs us rs tg i (j + 1) = clsV vs us rs tg i j ++ [(rV rs j)[tg]?.getD 0] := by
  unfold clsV; rw [linkK_yes h]; simp
theorem clsV_no {vs : List (ByteArray × Int)} {us : List Int} {rs : List RecD} {tg i j : Nat} (h : lnk vs us rs rs i j = false) : clsV vs us rs tg i (j + 1) = clsV vs us rs tg i j := by
  unfold clsV; rw [linkK_no h]
def ldD (vs : List (ByteArray × Int)) (us : List Int) (rs : List RecD) (tg i : Nat) : Int := (dcnt (clsV vs us rs tg i rs.length) : Int)
def ldN (vs : List (ByteArray × Int)) (us : List Int) (rs : List RecD) (tg : Nat) : Nat → Int
  | 0 => 0
  | i + 1 => if ldN vs us rs tg i = 0 ∨ ldD vs us rs tg i < ldN vs us rs tg i then ldD vs us rs tg i else ldN vs us rs tg i
theorem clsV_len (vs : List (ByteArray × Int)) (us : List Int) (rs : List RecD) (tg i j : Nat) : (clsV vs us rs tg i j).length ≤ j := by
  unfold clsV; rw [List.length_map]; exact linkK_len _ _
theorem ldD_bd (vs : List (ByteArray × Int)) (us : List Int) (rs : List RecD) (tg i : Nat) : 0 ≤ ldD vs us rs tg i ∧ ldD vs us rs tg i ≤ rs.length := by
  have h1 := dcnt_le (clsV vs us rs tg i rs.length)
  have h2 := clsV_len vs us rs tg i rs.length
  unfold ldD; omega
theorem ldN_bd (vs : List (ByteArray × Int)) (us : List Int) (rs : List RecD) (tg i : Nat) : 0 ≤ ldN vs us rs tg i ∧ ldN vs us rs tg i ≤ rs.length := by
  induction i with
  | zero => simp [ldN]
  | succ i ih => have := ldD_bd vs us rs tg i; simp only [ldN]; split <;> omega
theorem ldN_take {vs : List (ByteArray × Int)} {us : List Int} {rs : List RecD} {tg i : Nat} (h : ldN vs us rs tg i = 0 ∨ ldD vs us rs tg i < ldN vs us rs tg i) : ldN vs us rs tg (i + 1) = ldD vs us rs tg i := by simp only [ldN]; rw [if_pos h]
theorem ldN_keep {vs : List (ByteArray × Int)} {us : List Int} {rs : List RecD} {tg i : Nat} (h : ¬ (ldN vs us rs tg i = 0 ∨ ldD vs us rs tg i < ldN vs us rs tg i)) : ldN vs us rs tg (i + 1) = ldN vs us rs tg i := by simp only [ldN]; rw [if_neg h]
def ldB (tg : Int) (vs : List (ByteArray × Int)) (rs : List RecD) (us : List Int) : Bool := keyedB vs rs us && (inR tg 0 ((vs.length : Int) - 1) && !hasB us tg)
def ldV (tg : Int) (vs : List (ByteArray × Int)) (rs : List RecD) (us : List Int) : Int := if ldB tg vs rs us = true then ldN vs us rs tg.toNat rs.length else 0
end

section
open Go.RowKit

theorem ints_take {w : World} {A : Option Addr} {n k : Nat} {xs : List Int} (h : Ints w A n xs) (hk : k ≤ n) : Ints w A k (xs.take k) := by
  have hl := h.1
  refine ⟨by rw [List.length_take]; omega, fun hp => ?_⟩
  obtain ⟨ad, e, hc⟩ := h.2 (by omega)
  exact ⟨ad, e, fun j hj => by rw [List.getElem?_take, if_pos hj]; exact hc j (by omega)⟩
theorem ints_drop {w : World} {g n k : Nat} {xs : List Int} (h : Ints w (some ⟨g, 0, none⟩) n xs) (hk : k ≤ n) : Ints w (some ⟨g, k, none⟩) (n - k) (xs.drop k) := by
  have hl := h.1
  refine ⟨by rw [List.length_drop]; omega, fun hp => ?_⟩
  obtain ⟨ad, e, hc⟩ := h.2 (by omega)
  injection e with e
  subst e
  refine ⟨_, rfl, fun j hj => ?_⟩
  have h1 := hc (k + j) (by omega)
  rw [addr_add0] at h1
  have e2 : (⟨g, k, none⟩ : Addr).add j = ⟨g, k + j, none⟩ := by
    unfold Addr.add
    split
    · rename_i h0; rw [h0]; rfl
    · simp
  rw [e2, h1, List.getElem?_drop]
theorem Own.cap {w : World} {B : Nat} {A : Option Addr} {n c : Nat} {xs : List Int} (h : Own w B A n c xs) : n ≤ c ∧ (A = none → c = 0) := by
  rcases h.2 with ⟨hv, h0⟩ | ⟨g, cap, cur, hv, _, _, hc, _⟩
  · injection hv with h1 h2 h3
    exact ⟨by omega, fun _ => h3⟩
  · injection hv with h1 h2 h3
    exact ⟨by omega, fun h => by rw [h] at h1; cases h1⟩

/-- A row of the call's own that holds what the insertion gives. -/
def Puts (w : World) (B : Nat) (xs : List Int) (v : Int) (e : Ending) (w' : World) : Prop :=
  ∃ A' c' ys, e = .returned (.slice A' ys.length c') ∧ Own w' B A' ys.length c' ys ∧ PutR xs v ys ∧ Below w.heap.size w w'

set_option maxRecDepth 100000 in
set_option maxHeartbeats 2000000 in
theorem l1Put_any (A : Option Addr) (B n c : Nat) (v : Int) (xs : List Int) (w : World) (hx : Own w B A n c xs) (hn : n ≤ 1000000) (hB : B ≤ w.heap.size) :
    Calls Tryz.prog 51 #[.slice A n c, .int .i64 v] w (Puts w B xs v) := by
  obtain ⟨hcap, hcn⟩ := hx.cap
  have hl := Lib.hid hx.len
  have b0 := below_new w (.cells #[] 3)
  have O := own_new w [] 0 rfl (by omega)
  have HI := Lib.hid hx.ints
  have HO := Lib.hid hx
  go_enter Tryz.func51, Tryz.ntmps51
  go_wp2
  go_loopw [5] (fun i wr => ∃ k : Nat, k ≤ n ∧ i = .int .i64 k ∧ Hid (∀ t, t < k → xs[t]?.getD 0 < v) ∧ w = wr) (fun i _ => n - (intOf i).toNat)
  case atStart => exact ⟨0, Nat.zero_le _, rfl, Lib.hid fun t ht => absurd ht (by omega), rfl⟩
  case round =>
    obtain ⟨k, hk, rfl, hall, rfl⟩ := hrel
    by_cases hlt : k < n
    · obtain ⟨g, rfl, hgB, _, hc, _⟩ := hx.at_ hlt
      have E := Lib.hid (fun h => all_succ (p := fun t => xs[t]?.getD 0 < v) hall.out h)
      obtain ⟨x, hxe⟩ : ∃ x, xs[k]?.getD 0 = x := ⟨_, rfl⟩
      have HXE := Lib.hid hxe
      rw [hxe] at hc E
      clear hxe hx
      by_cases h1 : x < v
      · have R := Lib.hid (E.out h1)
        go_wp2
        go_roundw
        case rel => exact ⟨k + 1, by omega, by go_num, R, trivial⟩
        case measure => simp [intOf]; omega
      · by_cases h2 : x = v
        · have hq : (x == v) = true := by simp [h2]
          have R := Lib.hid (show PutR xs v xs from ⟨k, by rw [hl.out]; omega, hall.out, .inl ⟨by rw [hl.out]; exact hlt, by rw [HXE.out]; exact h2, rfl⟩⟩)
          clear h2
          go_wp2
          go_ret
          exact ⟨_, _, xs, by rw [hl.out]; rfl, by rw [hl.out]; exact HO.out, R.out, Below.refl _ _⟩
        · have hq : (x == v) = false := by simp [h2]
          have R := Lib.hid (show PutR xs v (xs.take k ++ [v] ++ xs.drop k) from ⟨k, by rw [hl.out]; omega, hall.out, .inr ⟨fun _ => by rw [HXE.out]; omega, rfl⟩⟩)
          have hne : ¬ c = k := by omega
          clear h2
          have HT := Lib.hid (ints_take HI.out hk)
          have HD := Lib.hid (ints_drop HI.out hk)
          go_wp2_with (first
            | (at_builtin; refine wp_app rfl _ _ rfl w.heap.size _ 0 0 [] rfl O _ k _ (xs.take k) rfl (by exact HT.out.below b0) (by omega) (by simp) ?_; intro A1 c1 w1 o1 g1 _; have b1 := below_write b0 g1 (by simp) (fun j hj => by simp [rowOf] at hj; omega); have s1 := b1.size; rw [Nat.zero_add, List.nil_append] at o1; rw [Nat.zero_add]; clear g1 O)
            | (at_builtin; refine wp_app1 (v := v) rfl _ _ rfl w.heap.size A1 k c1 _ rfl o1 _ rfl rfl (by omega) s1 ?_; intro A2 c2 w2 o2 g2 _; have b2 := below_write b1 g2 s1 (fun j hj => (o1.row_ge j hj).1); have s2 := b2.size; clear g2 o1)
            | (at_builtin; refine wp_app rfl _ _ rfl w.heap.size A2 (k + 1) c2 _ rfl o2 _ (n - k) _ (xs.drop k) rfl (by exact HD.out.below b2) (by omega) s2 ?_; intro A3 c3 w3 o3 g3 _; have b3 := Lib.hid (below_write b2 g3 s2 (fun j hj => (o2.row_ge j hj).1)); clear g3 o2))
          have HL := Lib.hid (show (xs.take k ++ [v] ++ xs.drop k).length = k + 1 + (n - k) by simp [hl.out]; omega)
          have HO3 := Lib.hid (o3.mono hB)
          clear o3
          go_wp2
          go_ret
          exact ⟨_, _, _, by rw [HL.out]; rfl, by rw [HL.out]; exact HO3.out, R.out, b3.out⟩
    · obtain rfl : n = k := by omega
      have R := Lib.hid (show PutR xs v (xs.take n ++ [v] ++ xs.drop n) from ⟨n, by rw [hl.out]; omega, hall.out, .inr ⟨fun h => by rw [hl.out] at h; omega, rfl⟩⟩)
      have HT := Lib.hid (ints_take HI.out (Nat.le_refl n))
      clear hx
      go_wp2_with (first
        | (at_builtin; refine wp_app rfl _ _ rfl w.heap.size _ 0 0 [] rfl O _ n _ (xs.take n) rfl (by exact HT.out.below b0) (by omega) (by simp) ?_; intro A1 c1 w1 o1 g1 _; have b1 := below_write b0 g1 (by simp) (fun j hj => by simp [rowOf] at hj; omega); have s1 := b1.size; rw [Nat.zero_add, List.nil_append] at o1; rw [Nat.zero_add]; clear g1 O)
        | (at_builtin; refine wp_app1 (v := v) rfl _ _ rfl w.heap.size A1 n c1 _ rfl o1 _ rfl rfl (by omega) s1 ?_; intro A2 c2 w2 o2 g2 _; have b2 := below_write b1 g2 s1 (fun j hj => (o1.row_ge j hj).1); have s2 := b2.size; clear g2 o1)
        | (at_builtin; refine wp_app rfl _ _ rfl w.heap.size A2 (n + 1) c2 _ rfl o2 _ 0 _ [] rfl (by exact Ints.nil_) (by omega) s2 ?_; intro A3 c3 w3 o3 g3 _; have b3 := Lib.hid (below_write b2 g3 s2 (fun j hj => (o2.row_ge j hj).1)); clear g3 o2))
      all_goals
        have HL := Lib.hid (show (xs.take n ++ [v] ++ xs.drop n).length = n + 1 + 0 by simp [hl.out])
        have HDR := Lib.hid (show xs.take n ++ [v] ++ [] = xs.take n ++ [v] ++ xs.drop n by rw [List.drop_of_length_le (by rw [hl.out]; omega)])
        rw [HDR.out] at o3
        have HO3 := Lib.hid (o3.mono hB)
        clear o3
        go_wp2
        go_ret
        exact ⟨_, _, _, by rw [HL.out]; rfl, by rw [HL.out]; exact HO3.out, R.out, b3.out⟩
end

section
open Go.RowKit

def aloneK (S : Nat → List Int) (i : Nat) (e : Int) (k : Nat) : Bool := allTo (fun t => decide (t = i) || !hasB (S t) e) k
def certB (S : Nat → List Int) (m i : Nat) : Bool := decide ((S i).length = 1) && aloneK S i ((S i)[0]?.getD 0) m
/-- The pairs of the first i sets. -/
def pairsL (S : Nat → List Int) (m i : Nat) : List (List Int) := (linkK (certB S m) i).map fun k => [k, (S k.toNat)[0]?.getD 0]
theorem pairsL_yes {S : Nat → List Int} {m i : Nat} (h : certB S m i = true) : pairsL S m (i + 1) = pairsL S m i ++ [[(i : Int), (S i)[0]?.getD 0]] := by unfold pairsL; rw [linkK_yes h]; simp
theorem pairsL_no {S : Nat → List Int} {m i : Nat} (h : certB S m i = false) : pairsL S m (i + 1) = pairsL S m i := by unfold pairsL; rw [linkK_no h]
theorem pairsL_len (S : Nat → List Int) (m i : Nat) : (pairsL S m i).length ≤ i := by unfold pairsL; rw [List.length_map]; exact linkK_len _ _
/-- All elements of the first i sets. -/
def flatS (S : Nat → List Int) (i : Nat) : List Int := (List.range i).flatMap S
theorem flatS_succ (S : Nat → List Int) (i : Nat) : flatS S (i + 1) = flatS S i ++ S i := by simp [flatS, List.range_succ]
theorem hasB_mem {xs : List Int} {v : Int} : hasB xs v = true ↔ v ∈ xs := by
  constructor
  · intro h
    by_cases hm : v ∈ xs
    · exact hm
    · have := hasB_no (v := v) (xs := xs) rfl (fun k hk e => hm (by rw [← e]; exact getD_mem hk))
      rw [h] at this; cases this
  · intro h
    obtain ⟨k, hk, e⟩ := List.mem_iff_getElem.1 h
    exact hasB_yes rfl hk (by rw [List.getElem?_eq_getElem hk]; exact e)
theorem flat_one {S : Nat → List Int} {i : Nat} {e : Int} (hS : S i = [e]) : ∀ m, aloneK S i e m = true → (flatS S m).count e = if i < m then 1 else 0 := by
  intro m
  induction m with
  | zero => intro _; simp [flatS]
  | succ m ih =>
    intro h
    have h1 : aloneK S i e m = true := allTo_yes fun t ht => allTo_of h t (by omega)
    have h2 := allTo_of h m (by omega)
    rw [flatS_succ, List.count_append, ih h1]
    by_cases hm : m = i
    · subst hm
      rw [hS, if_neg (by omega), if_pos (by omega)]; simp
    · have h3 : hasB (S m) e = false := by simpa [hm] using h2
      have h4 : e ∉ S m := fun hm' => by rw [hasB_mem.2 hm'] at h3; cases h3
      rw [List.count_eq_zero.2 h4]
      by_cases hlt : i < m
      · rw [if_pos hlt, if_pos (by omega)]
      · rw [if_neg hlt, if_neg (by omega)]
theorem flat_mono {S : Nat → List Int} {e : Int} {k m : Nat} (hk : k ≤ m) : (flatS S k).count e ≤ (flatS S m).count e := by
  induction m with
  | zero => obtain rfl : k = 0 := by omega
            exact Nat.le_refl _
  | succ m ih =>
    rcases Nat.lt_or_ge m k with h | h
    · obtain rfl : k = m + 1 := by omega
      exact Nat.le_refl _
    · rw [flatS_succ, List.count_append]; have := ih h; omega
theorem flat_more {S : Nat → List Int} {i m : Nat} {e : Int} (hi : i < m) (hS : S i = [e]) (h : aloneK S i e m = false) : (flatS S m).count e ≠ 1 := by
  have hex : ∃ t, t < m ∧ t ≠ i ∧ e ∈ S t := by
    refine Classical.byContradiction fun hn => ?_
    have : aloneK S i e m = true := allTo_yes fun t ht => by
      by_cases hti : t = i
      · simp [hti]
      · have : e ∉ S t := fun hm => hn ⟨t, ht, hti, hm⟩
        have h3 : hasB (S t) e = false := by
          cases hb : hasB (S t) e
          · rfl
          · exact absurd (hasB_mem.1 hb) this
        simp [h3]
    rw [h] at this; cases this
  obtain ⟨t, ht, hti, hm⟩ := hex
  have hc : 1 ≤ (S t).count e := List.count_pos_iff.2 hm
  have hci : (S i).count e = 1 := by rw [hS]; simp
  rcases Nat.lt_or_ge t i with h1 | h1
  · have a1 := flat_mono (S := S) (e := e) (k := t + 1) (m := i) (by omega)
    have a2 := flat_mono (S := S) (e := e) (k := i + 1) (m := m) (by omega)
    rw [flatS_succ, List.count_append] at a1 a2
    omega
  · have a1 := flat_mono (S := S) (e := e) (k := i + 1) (m := t) (by omega)
    have a2 := flat_mono (S := S) (e := e) (k := t + 1) (m := m) (by omega)
    rw [flatS_succ, List.count_append] at a1 a2
    omega
theorem cert_iff {S : Nat → List Int} {i m : Nat} (hi : i < m) (h1 : (S i).length = 1) : ((flatS S m).count ((S i)[0]?.getD 0) = 1) ↔ certB S m i = true := by
  have hS : S i = [(S i)[0]?.getD 0] := by
    match h : S i, h1 with
    | [a], _ => rfl
  generalize he : (S i)[0]?.getD 0 = e at *
  have hc : certB S m i = aloneK S i e m := by unfold certB; rw [h1, he]; rfl
  rw [hc]
  cases ha : aloneK S i e m
  · exact ⟨fun h => absurd h (flat_more hi hS ha), fun h => by cases h⟩
  · rw [flat_one hS m ha, if_pos hi]; simp
theorem certB_no {S : Nat → List Int} {i m : Nat} (h1 : (S i).length ≠ 1) : certB S m i = false := by unfold certB; rw [decide_eq_false h1]; rfl
theorem certB_eq {S : Nat → List Int} {i m : Nat} (h1 : (S i).length = 1) : certB S m i = aloneK S i ((S i)[0]?.getD 0) m := by unfold certB; rw [decide_eq_true h1]; rfl
/-- The counts' cells. -/
def cntA (F : List Int) : Array Value := ((List.range 40).map fun (v : Nat) => Value.int .i64 ((F.count (v : Int) : Nat) : Int)).toArray
theorem cntA_nil : cntA [] = ((List.range 40).map fun (_ : Nat) => Value.int .i64 0).toArray := rfl
theorem cntA_at {F : List Int} {v : Nat} (h : v < 40) : (cntA F)[v]? = some (.int .i64 ((F.count (v : Int) : Nat) : Int)) := by simp [cntA, h]
theorem cntA_set {F : List Int} {v : Nat} : (cntA F).setIfInBounds v (.int .i64 (((F.count (v : Int) : Nat) : Int) + 1)) = cntA (F ++ [(v : Int)]) := by
  apply Array.ext_getElem?
  intro t
  rw [Array.getElem?_setIfInBounds]
  have hs : (cntA F).size = 40 := by simp [cntA]
  have hs2 : (cntA (F ++ [(v : Int)])).size = 40 := by simp [cntA]
  by_cases e : v = t
  · subst e
    by_cases h : v < 40
    · rw [if_pos rfl, if_pos (by omega), cntA_at h, List.count_append]; simp
    · rw [if_pos rfl, if_neg (by omega), Array.getElem?_eq_none (by omega)]
  · rw [if_neg e]
    by_cases h : t < 40
    · rw [cntA_at h, cntA_at h, List.count_append]
      have : (v : Int) ≠ (t : Int) := by omega
      simp [this]
    · rw [Array.getElem?_eq_none (by omega), Array.getElem?_eq_none (by omega)]

/-- Rows of rows as a list of lists. -/
def OwnLL (w : World) (lo hi : Nat) (A : Option Addr) (c : Nat) (R : List (List Int)) : Prop := OwnII w lo hi A R.length c (fun t => R[t]?.getD [])
theorem Sub.snoc {w wa w' : World} {lo n c : Nat} {A : Option Addr} {ys : List Value} {R : List (List Int)} {r : List Int} {g rn rc : Nat} (h : Sub w lo w.heap.size ys 1 0 (fun t => R[t]?.getD []) 0 n) (hl : ys.length = n) (hR : R.length = n) (hb : Below w.heap.size w wa) (ho : Own wa lo (some ⟨g, 0, none⟩) rn rc r) (hrn : r.length = rn) (hrs : rn ≤ 1099511627776) (hgn : w.heap.size ≤ g)
    (hrow : wa.ownsRow lo 26 1 (.slice A n c) n ys) (hg : wa.grownBy w' (rowOf A)) : Sub w' lo w'.heap.size (ys ++ [.slice (some ⟨g, 0, none⟩) rn rc]) 1 0 (fun t => (R ++ [r])[t]?.getD []) 0 (n + 1) := by
  subst hrn
  have e1 : ∀ t : Nat, t * 1 + 0 = t := fun t => by omega
  have hne : ∀ {V : Option Addr} {m d : Nat} {xs : List Int}, Own wa lo V m d xs → ∀ b, V = some ⟨b, 0, none⟩ → rowOf A ≠ some b := fun {V m d xs} hV b hVb hAb => by
    rcases A with _ | a
    · cases hAb
    · simp only [rowOf, Option.some.injEq] at hAb
      rcases hrow.2 with ⟨h0, _⟩ | ⟨g', cap, cur, hv, _, hgh, _⟩
      · cases h0
      · injection hv with hv
        injection hv with hv
        subst hv
        subst hAb
        exact own_box_ne hV hgh (by decide) (by rw [hVb]; rfl)
  have hold : ∀ j, j < n → ∀ b, (ys[j]?).bind Value.ownBlock = some b → b < w.heap.size := fun j hj b hbj => by
    obtain ⟨V3, c3, e3, ho3⟩ := h.row j (by omega) hj
    rw [e1] at e3
    rw [e3] at hbj
    exact (ho3.own.row_ge b (by simpa [ownBlock_rowOf] using hbj)).2
  have hy : ∀ j, j < n → (ys ++ [.slice (some ⟨g, 0, none⟩) r.length rc])[j]? = ys[j]? := fun j hj => List.getElem?_append_left (by omega)
  have hyn : (ys ++ [.slice (some ⟨g, 0, none⟩) r.length rc])[n]? = some (.slice (some ⟨g, 0, none⟩) r.length rc) := by
    rw [List.getElem?_append_right (by omega), hl, Nat.sub_self]; rfl
  refine ⟨fun j h1 h2 => ?_, fun i j b h1 h2 h3 hi hj => ?_⟩
  · rw [e1]
    rcases Nat.lt_or_ge j n with hj | hj
    · obtain ⟨V3, c3, e3, ho3⟩ := h.row j h1 hj
      rw [e1] at e3
      have eL : (R ++ [r])[j]?.getD [] = R[j]?.getD [] := by rw [List.getElem?_append_left (by omega)]
      rw [hy j hj]
      rw [eL]
      exact ⟨V3, c3, e3, OwnI.of_own ((ho3.own.below hb).far hg (fun b hA e => hne (ho3.own.below hb) b hA e)) ho3.small⟩
    · obtain rfl : j = n := by omega
      have eL : (R ++ [r])[j]?.getD [] = r := by rw [List.getElem?_append_right (by omega), hR, Nat.sub_self]; rfl
      rw [hyn]
      rw [eL]
      exact ⟨_, rc, rfl, OwnI.of_own (ho.far hg (fun b hA e => hne ho b hA e)) hrs⟩
  · rw [e1] at hi hj
    rcases Nat.lt_or_ge j n with hjn | hjn
    · rw [hy i (by omega)] at hi
      rw [hy j hjn] at hj
      exact h.apart i j b h1 h2 hjn (by rw [e1]; exact hi) (by rw [e1]; exact hj)
    · obtain rfl : j = n := by omega
      rw [hy i (by omega)] at hi
      rw [hyn] at hj
      have hb1 := hold i (by omega) b hi
      simp only [Option.bind_some, Value.ownBlock, Option.some.injEq] at hj
      omega

/-- 'append(s, r)' of one row: r's slice lies in a new block of its own. -/
theorem wp_appII1 {wr : World} {v : Value} {ops : Array Oper} {rest : List Oper} {o : Oper} {a : Act} {Q : Exit → Act → World → Prop} (hgd : o.guard = none) (s x : Operand)
    (ho : o.op = .call { callee := .builtin .append, args := #[s, x], argTypes := #[29, 29] })
    (B : Nat) (A : Option Addr) (n c : Nat) (ys : List Value) (hs : a.eval s = .slice A n c) (hown : wr.ownsRow B 26 1 (.slice A n c) n ys)
    (g : Nat) (hx : a.eval x = .slice (some ⟨g, 0, none⟩) 1 1) (hg : g = wr.heap.size) (hv : v.oneCell' = true) (hsz : n + 1 ≤ 1099511627776) (hB : B ≤ wr.heap.size)
    (h : ∀ A2 c2 w', w'.ownsRow B 26 1 (.slice A2 (n + 1) c2) (n + 1) (ys ++ [v]) → (wr.alloc (.cells #[v] 26)).grownBy w' (rowOf A) → wpList Tryz.prog ops Q rest (a.put o.dst (.slice A2 (n + 1) c2)) w') :
    wpList Tryz.prog ops Q (o :: rest) a (wr.alloc (.cells #[v] 26)) := by
  obtain ⟨i0, hi, hz0, hz1, hz2⟩ := info_parts Tryz.infoIntS
  subst hg
  refine wpList_append_own_at _ hgd s x 29 ho B 26 i0 _ 1 24 Tryz.underlying29 hi hz0 hz1 hz2 rfl (by omega) (.slice A n c) n ys hs (hown.alloc _) ⟨wr.heap.size, 0, none⟩ 1 1 [v] hx rfl ?_ ?_
      (by unfold maxLen; omega) (by omega) (by simp; omega) ?_
  · intro j u hu
    have hb := box_new wr #[v] 26
    rw [addr_add0]
    match j with
    | 0 => simp at hu; subst hu; exact box_cell hb 0 _ rfl
    | j + 1 => simp at hu
  · intro u hu
    simp at hu
    subst hu
    exact hv
  · intro v' w' h1 h2 h3 h4
    rw [ownBlock_row] at h2
    have hv : ∃ A2 c2, v' = .slice A2 (n + 1) c2 := by
      rcases h1.2 with ⟨hv, h0⟩ | ⟨g, cap, cur, hv, _⟩
      · rw [h0]; exact ⟨none, 0, hv⟩
      · exact ⟨_, cap, hv⟩
    obtain ⟨A2, c2, rfl⟩ := hv
    exact h A2 c2 w' h1 h2
end
end Go.Proofs.YtahbcnclhohnaaaGreat
