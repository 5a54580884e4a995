/- Several small texts in one: Sch, Sch2, Sch3. -/
import Derived.Test.YtahbcnclhohnaaaGreatZc
import Derived.Deep.RegionWith
import Derived.Deep.DeepCutAuto
namespace Go.Proofs.YtahbcnclhohnaaaGreat

section
open Go.RowKit

/-- All numbers below n pass. -/
def allTo (p : Nat → Bool) (n : Nat) : Bool := (List.range n).all p
theorem allTo_yes {p : Nat → Bool} {n : Nat} (h : ∀ i, i < n → p i = true) : allTo p n = true := by
  simp only [allTo, List.all_eq_true, List.mem_range]; exact h
theorem allTo_no {p : Nat → Bool} {n i : Nat} (hi : i < n) (h : p i = false) : allTo p n = false := by
  simp only [allTo, List.all_eq_false, List.mem_range]; exact ⟨i, hi, by simp [h]⟩
theorem allTo_of {p : Nat → Bool} {n : Nat} (h : allTo p n = true) (i : Nat) (hi : i < n) : p i = true := by
  simp only [allTo, List.all_eq_true, List.mem_range] at h; exact h i hi
theorem allTo_succ {p : Nat → Bool} {n : Nat} (h : allTo p n = true) (hp : p n = true) : allTo p (n + 1) = true :=
  allTo_yes fun i hi => by
    rcases Nat.lt_or_ge i n with h1 | h1
    · exact allTo_of h i h1
    · obtain rfl : i = n := by omega
      exact hp

def chOk (s : ByteArray) (i : Nat) : Bool := if h : i < s.size then inR ((s[i]'h).toNat : Int) 97 122 else true
def wordB (s : ByteArray) : Bool := inR s.size 1 8 && allTo (chOk s) s.size
theorem chOk_yes {s : ByteArray} {i : Nat} (h : i < s.size) (h1 : 97 ≤ ((s[i]'h).toNat : Int)) (h2 : ((s[i]'h).toNat : Int) ≤ 122) : chOk s i = true := by
  simp only [chOk, h, dite_true]; exact inR_yes h1 h2
theorem chOk_no {s : ByteArray} {i : Nat} (h : i < s.size) (h1 : ¬ (97 ≤ ((s[i]'h).toNat : Int) ∧ ((s[i]'h).toNat : Int) ≤ 122)) : chOk s i = false := by
  simp only [chOk, h, dite_true]; exact inR_no h1

set_option maxHeartbeats 800000 in
theorem isWord_any (s : ByteArray) (w : World) (hs : s.size ≤ 1099511627776) :
    Calls Tryz.prog 68 #[.string s] w fun e w' => e = .returned (.bool (wordB s)) ∧ w = w' := by
  by_cases hz : 1 ≤ s.size
  · by_cases hz2 : s.size ≤ 8
    · have H0 := Lib.hid (show allTo (chOk s) s.size = wordB s by unfold wordB; rw [inR_yes (by omega) (by omega)]; rfl)
      go_enter Tryz.func68, Tryz.ntmps68
      go_wp2
      go_loop [3, 14] (fun _ i => ∃ k : Nat, k ≤ s.size ∧ i = .int .i64 k ∧ Hid (∀ t, t < k → chOk s t = true)) (fun _ i => s.size - (intOf i).toNat)
      case atStart => exact ⟨0, Nat.zero_le _, rfl, Lib.hid fun t ht => absurd ht (by omega)⟩
      case round =>
        obtain ⟨k, hk, rfl, hall⟩ := hrel
        by_cases hlt : k < s.size
        · have hbd : (s[k].toNat : Int) < 256 := by have := s[k].toNat_lt; omega
          by_cases h1 : (s[k].toNat : Int) < 97
          · have R := Lib.hid (show false = wordB s by rw [← H0.out, allTo_no hlt (chOk_no hlt (by omega))])
            go_wp2
            go_ret
            exact ⟨ret_bool R.out, rfl⟩
          · by_cases h2 : 122 < (s[k].toNat : Int)
            · have R := Lib.hid (show false = wordB s by rw [← H0.out, allTo_no hlt (chOk_no hlt (by omega))])
              go_wp2
              go_ret
              exact ⟨ret_bool R.out, rfl⟩
            · have R := Lib.hid (show ∀ t, t < k + 1 → chOk s t = true from fun t ht => by
                rcases Nat.lt_or_ge t k with h | h
                · exact hall.out t h
                · obtain rfl : t = k := by omega
                  exact chOk_yes hlt (by omega) (by omega))
              go_wp2
              go_round
              case rel => exact ⟨k + 1, by omega, by go_num, R⟩
              case measure => simp [intOf]; omega
        · obtain rfl : k = s.size := by omega
          have R := Lib.hid (show true = wordB s by rw [← H0.out, allTo_yes hall.out])
          go_wp2
          go_ret
          exact ⟨ret_bool R.out, rfl⟩
    · have R := Lib.hid (show false = wordB s by unfold wordB; rw [inR_no (by omega)]; rfl)
      go_enter Tryz.func68, Tryz.ntmps68
      go_wp2
      go_ret
      exact ⟨ret_bool R.out, rfl⟩
  · have R := Lib.hid (show false = wordB s by unfold wordB; rw [inR_no (by omega)]; rfl)
    go_enter Tryz.func68, Tryz.ntmps68
    go_wp2
    go_ret
    exact ⟨ret_bool R.out, rfl⟩

set_option maxHeartbeats 800000 in
theorem sName_any (s : ByteArray) (w : World) (hs : s.size ≤ 1099511627776) :
    Calls Tryz.prog 104 #[.string s] w fun e w' => e = .returned (.bool (wordB s)) ∧ w = w' := by
  go_enter Tryz.func104, Tryz.ntmps104
  go_wp2
  go_loop [3] (fun i => ∃ k : Nat, k ≤ s.size ∧ i = .int .i64 k ∧ Hid (∀ t, t < k → chOk s t = true)) (fun i => s.size - (intOf i).toNat)
  case atStart => exact ⟨0, Nat.zero_le _, rfl, Lib.hid fun t ht => absurd ht (by omega)⟩
  case round =>
    obtain ⟨k, hk, rfl, hall⟩ := hrel
    by_cases hlt : k < s.size
    · have hbd : (s[k].toNat : Int) < 256 := by have := s[k].toNat_lt; omega
      by_cases h1 : (s[k].toNat : Int) < 97
      · have R := Lib.hid (show false = wordB s by unfold wordB; rw [allTo_no hlt (chOk_no hlt (by omega)), Bool.and_false])
        go_wp2
        go_ret
        exact ⟨ret_bool R.out, rfl⟩
      · by_cases h2 : 122 < (s[k].toNat : Int)
        · have R := Lib.hid (show false = wordB s by unfold wordB; rw [allTo_no hlt (chOk_no hlt (by omega)), Bool.and_false])
          go_wp2
          go_ret
          exact ⟨ret_bool R.out, rfl⟩
        · have R := Lib.hid (show ∀ t, t < k + 1 → chOk s t = true from fun t ht => by
            rcases Nat.lt_or_ge t k with h | h
            · exact hall.out t h
            · obtain rfl : t = k := by omega
              exact chOk_yes hlt (by omega) (by omega))
          go_wp2
          go_round
          case rel => exact ⟨k + 1, by omega, by go_num, R⟩
          case measure => simp [intOf]; omega
    · obtain rfl : k = s.size := by omega
      have R := Lib.hid (show inR s.size 1 8 = wordB s by unfold wordB; rw [allTo_yes hall.out, Bool.and_true])
      go_wp2_with (go_at_call 29; refine (l1In_any _ _ _ _).mono ?_; rintro e w2 ⟨rfl, rfl⟩)
      go_ret
      exact ⟨ret_bool R.out, rfl⟩
end

section
open Go.RowKit

def nmEq (s t : ByteArray) : Bool := s.toList == t.toList
def freshB (vs : List (ByteArray × Int)) (nm : ByteArray) (n : Nat) : Bool := allTo (fun j => !nmEq (vN vs j) nm) n
def varOk (vs : List (ByteArray × Int)) (i : Nat) : Bool := wordB (vN vs i) && (inR (vL vs i) 2 8 && freshB vs (vN vs i) i)
def schB (vs : List (ByteArray × Int)) : Bool := inR vs.length 1 6 && allTo (varOk vs) vs.length
theorem schB_no {vs : List (ByteArray × Int)} {k n : Nat} (hl : vs.length = n) (hk : k < n) (h : varOk vs k = false) : schB vs = false := by
  unfold schB; rw [allTo_no (by omega) h, Bool.and_false]
theorem schB_len {vs : List (ByteArray × Int)} {n : Nat} (hl : vs.length = n) (h : ¬ (1 ≤ n ∧ n ≤ 6)) : schB vs = false := by
  unfold schB; rw [inR_no (by omega)]; rfl
theorem schB_yes {vs : List (ByteArray × Int)} {n : Nat} (hl : vs.length = n) (h : 1 ≤ n ∧ n ≤ 6) (ha : ∀ i, i < n → varOk vs i = true) : schB vs = true := by
  unfold schB; rw [inR_yes (by omega) (by omega), allTo_yes (by rw [hl]; exact ha)]; rfl
theorem schB_of {vs : List (ByteArray × Int)} (h : schB vs = true) : (1 ≤ vs.length ∧ vs.length ≤ 6) ∧ ∀ i, i < vs.length → 2 ≤ vL vs i ∧ vL vs i ≤ 8 := by
  simp only [schB, Bool.and_eq_true] at h
  have h1 := inR_of h.1
  refine ⟨by omega, fun i hi => ?_⟩
  have h2 := allTo_of h.2 i hi
  simp only [varOk, Bool.and_eq_true] at h2
  exact inR_of h2.2.1
theorem varOk_word {vs : List (ByteArray × Int)} {k : Nat} (h : wordB (vN vs k) = false) : varOk vs k = false := by simp [varOk, h]
theorem varOk_lev {vs : List (ByteArray × Int)} {k : Nat} (h : ¬ (2 ≤ vL vs k ∧ vL vs k ≤ 8)) : varOk vs k = false := by simp [varOk, inR_no h]
theorem varOk_name {vs : List (ByteArray × Int)} {k j : Nat} (hj : j < k) (h : nmEq (vN vs j) (vN vs k) = true) : varOk vs k = false := by
  have : freshB vs (vN vs k) k = false := allTo_no hj (by simp [h])
  simp [varOk, this]
theorem varOk_yes {vs : List (ByteArray × Int)} {k : Nat} (h1 : wordB (vN vs k) = true) (h2 : 2 ≤ vL vs k ∧ vL vs k ≤ 8) (h3 : ∀ j, j < k → nmEq (vN vs j) (vN vs k) = false) : varOk vs k = true := by
  have : freshB vs (vN vs k) k = true := allTo_yes fun j hj => by simp [h3 j hj]
  simp [varOk, h1, inR_yes h2.1 h2.2, this]

set_option maxHeartbeats 1000000 in
theorem IsSchema_any (A : Option Addr) (n c : Nat) (vs : List (ByteArray × Int)) (w : World) (hx : VarsR w A n vs) (hs : ∀ j, j < n → (vN vs j).size ≤ 1099511627776) (hn : n ≤ 1099511627776) (hcap : n ≤ c) :
    Calls Tryz.prog 38 #[.slice A n c] w fun e w' => e = .returned (.bool (schB vs)) ∧ Below w.heap.size w w' := by
  have hl := Lib.hid hx.1
  by_cases h1 : 1 ≤ n
  · by_cases h6 : n ≤ 6
    · go_enter Tryz.func38, Tryz.ntmps38
      go_wp2
      go_loopw [17] (fun i wr => ∃ k : Nat, k ≤ n ∧ i = .int .i64 k ∧ Hid (∀ t, t < k → varOk vs t = true) ∧ Below w.heap.size w wr) (fun i _ => n - (intOf i).toNat)
      case atStart => exact ⟨0, Nat.zero_le _, rfl, Lib.hid fun t ht => absurd ht (by omega), Below.refl _ _⟩
      case round =>
        obtain ⟨k, hk, rfl, hall, hbw⟩ := hrel
        obtain ⟨wo, rfl⟩ : ∃ wo : World, wo = wr := ⟨_, rfl⟩
        by_cases hlt : k < n
        · have HX := Lib.hid (hx.below hbw)
          obtain ⟨ad, rfl, hc, hc'⟩ := HX.out.at_ hlt
          have hsk := hs k hlt
          have W0 := Lib.hid (fun h => schB_no hl.out hlt (varOk_word h))
          have L0 := Lib.hid (fun h => schB_no hl.out hlt (varOk_lev h))
          have N0 := Lib.hid (fun j (hj : j < k) h => schB_no hl.out hlt (varOk_name hj h))
          have Y0 := Lib.hid (fun h1 h2 h3 => varOk_yes (vs := vs) (k := k) h1 h2 h3)
          clear hx hs
          obtain ⟨s, hse⟩ : ∃ s, vN vs k = s := ⟨_, rfl⟩
          obtain ⟨x, hxe⟩ : ∃ x, vL vs k = x := ⟨_, rfl⟩
          rw [hse] at hc hsk W0 N0 Y0
          rw [hxe] at hc' L0 Y0
          clear hse hxe
          have hb2 := hbw.alloc hbw.size (.cells #[.string s, .int .i64 x] 105)
          cases hW : wordB s
          · have HW := Lib.hid hW
            have R := Lib.hid (W0.out hW).symm
            clear hW
            go_wp2_with (go_at_call 68; refine (isWord_any s _ hsk).mono ?_; rintro e w2 ⟨rfl, rfl⟩; rw [HW.out])
            go_ret
            exact ⟨ret_bool R.out, hb2⟩
          · have HW := Lib.hid hW
            clear hW
            by_cases hx2 : x < 2
            · have R := Lib.hid (L0.out (by omega)).symm
              go_wp2_with (go_at_call 68; refine (isWord_any s _ hsk).mono ?_; rintro e w2 ⟨rfl, rfl⟩; rw [HW.out])
              go_ret
              exact ⟨ret_bool R.out, hb2⟩
            by_cases hx8 : 8 < x
            · have R := Lib.hid (L0.out (by omega)).symm
              go_wp2_with (go_at_call 68; refine (isWord_any s _ hsk).mono ?_; rintro e w2 ⟨rfl, rfl⟩; rw [HW.out])
              go_ret
              exact ⟨ret_bool R.out, hb2⟩
            have R1 := Lib.hid (Y0.out HW.out (by omega))
            have X1 := Lib.hid (HX.out.below (below_new wo (.cells #[.string s, .int .i64 x] 105)))
            have C1 := box_cell (box_new wo #[.string s, .int .i64 x] 105) 0 (.string s) rfl
            have S1 : wo.heap.size < (wo.alloc (.cells #[.string s, .int .i64 x] 105)).heap.size := by simp
            go_wp2_with (go_at_call 68; refine (isWord_any s _ hsk).mono ?_; rintro e w2 ⟨rfl, rfl⟩; rw [HW.out])
            clear hc hc'
            generalize wo.alloc (.cells #[.string s, .int .i64 x] 105) = w1 at *
            go_loopw [40] (fun i wq => ∃ j : Nat, j ≤ k ∧ i = .int .i64 j ∧ Hid (∀ t, t < j → nmEq (vN vs t) s = false) ∧ Below w1.heap.size w1 wq) (fun i _ => k - (intOf i).toNat)
            case atStart => exact ⟨0, Nat.zero_le _, rfl, Lib.hid fun t ht => absurd ht (by omega), Below.refl _ _⟩
            case round =>
              obtain ⟨j, hj, rfl, hno, hbq⟩ := hrel
              by_cases hjk : j < k
              · obtain ⟨ad', e, hd, hd'⟩ := (X1.out.below hbq).at_ (show j < n by omega)
                injection e with e
                subst e
                have C2 := (hbq.cell (p := ⟨wo.heap.size, 0, none⟩) S1).trans C1
                have S2 := Nat.lt_of_lt_of_le S1 hbq.size
                have N1 := Lib.hid (N0.out j hjk)
                have M1 := Lib.hid (fun (h : nmEq (vN vs j) s = false) => (show ∀ t, t < j + 1 → nmEq (vN vs t) s = false from fun t ht => by
                  rcases Nat.lt_or_ge t j with h' | h'
                  · exact hno.out t h'
                  · obtain rfl : t = j := by omega
                    exact h))
                obtain ⟨s', hse'⟩ : ∃ s', vN vs j = s' := ⟨_, rfl⟩
                rw [hse'] at hd N1 M1
                clear hse'
                have hb3 := hb2.trans (hbq.mono hb2.size)
                have hb4 := Lib.hid hb3
                have hsz := hb3.size
                cases hE : s'.toList == s.toList
                · have R := Lib.hid (M1.out hE)
                  go_wp2
                  go_roundw
                  case rel => exact ⟨j + 1, by omega, by go_num, R, hbq.alloc hbq.size _⟩
                  case measure => simp [intOf]; omega
                · have R := Lib.hid (N1.out hE).symm
                  go_wp2
                  go_ret
                  exact ⟨ret_bool R.out, hb4.out.alloc hsz _⟩
              · obtain rfl : j = k := by omega
                have R := Lib.hid (R1.out hno.out)
                have hb3 := hb2.trans (hbq.mono hb2.size)
                go_wp2
                go_roundw
                case rel => exact ⟨j + 1, by omega, by go_num, Lib.hid fun t ht => by
                              rcases Nat.lt_or_ge t j with h' | h'
                              · exact hall.out t h'
                              · obtain rfl : t = j := by omega
                                exact R.out, hb3⟩
                case measure => simp [intOf]; omega
        · obtain rfl : k = n := by omega
          have R := Lib.hid (schB_yes hl.out ⟨h1, h6⟩ hall.out).symm
          go_wp2
          go_ret
          exact ⟨ret_bool R.out, hbw⟩
    · have R := Lib.hid (schB_len hl.out (by omega)).symm
      go_enter Tryz.func38, Tryz.ntmps38
      go_wp2
      go_ret
      exact ⟨ret_bool R.out, Below.refl _ _⟩
  · have R := Lib.hid (schB_len hl.out (by omega)).symm
    go_enter Tryz.func38, Tryz.ntmps38
    go_wp2
    go_ret
    exact ⟨ret_bool R.out, Below.refl _ _⟩
end

section
open Go.RowKit

def FoundV (vs : List (ByteArray × Int)) (nm : ByteArray) (n : Nat) (w : World) (e : Ending) (w' : World) : Prop :=
  ∃ r : Int, e = .returned (.int .i64 r) ∧ (freshB vs nm n = true → r < 0) ∧ (freshB vs nm n = false → 0 ≤ r) ∧ Below w.heap.size w w'

set_option maxHeartbeats 800000 in
theorem sFind_any (A : Option Addr) (n c : Nat) (vs : List (ByteArray × Int)) (nm : ByteArray) (w : World) (hx : VarsR w A n vs) (hn : n ≤ 1099511627776) :
    Calls Tryz.prog 105 #[.slice A n c, .string nm] w (FoundV vs nm n w) := by
  go_enter Tryz.func105, Tryz.ntmps105
  go_wp2
  go_loopw [9] (fun i wr => ∃ k : Nat, k ≤ n ∧ i = .int .i64 k ∧ Hid (∀ t, t < k → nmEq (vN vs t) nm = false) ∧ Below w.heap.size w wr) (fun i _ => n - (intOf i).toNat)
  case atStart => exact ⟨0, Nat.zero_le _, rfl, Lib.hid fun t ht => absurd ht (by omega), Below.refl _ _⟩
  case round =>
    obtain ⟨k, hk, rfl, hall, hbw⟩ := hrel
    by_cases hlt : k < n
    · obtain ⟨ad, rfl, hc, hc'⟩ := (hx.below hbw).at_ hlt
      have N0 := Lib.hid (fun (h : nmEq (vN vs k) nm = true) => (show freshB vs nm n = false from allTo_no hlt (by simp [h])))
      have M1 := Lib.hid (fun (h : nmEq (vN vs k) nm = false) => (show ∀ t, t < k + 1 → nmEq (vN vs t) nm = false from fun t ht => by
                  rcases Nat.lt_or_ge t k with h' | h'
                  · exact hall.out t h'
                  · obtain rfl : t = k := by omega
                    exact h))
      clear hx
      obtain ⟨s, hse⟩ : ∃ s, vN vs k = s := ⟨_, rfl⟩
      rw [hse] at hc N0 M1
      clear hse
      have hsz := hbw.size
      cases hE : s.toList == nm.toList
      · have R := Lib.hid (M1.out hE)
        go_wp2
        go_roundw
        case rel => exact ⟨k + 1, by omega, by go_num, R, hbw.alloc hsz _⟩
        case measure => simp [intOf]; omega
      · have R := Lib.hid (N0.out hE)
        go_wp2
        go_ret
        exact ⟨_, rfl, fun h => (by rw [R.out] at h; cases h), fun _ => by omega, hbw.alloc hsz _⟩
    · obtain rfl : k = n := by omega
      have R := Lib.hid (show freshB vs nm k = true from allTo_yes fun j hj => by simp [hall.out j hj])
      go_wp2
      go_ret
      exact ⟨_, rfl, fun _ => by omega, fun h => (by rw [R.out] at h; cases h), hbw⟩

theorem VarsR.take {w : World} {A : Option Addr} {n k : Nat} {vs : List (ByteArray × Int)} (h : VarsR w A n vs) (hk : k ≤ n) : VarsR w A k (vs.take k) := by
  have hl := h.1
  refine ⟨by rw [List.length_take]; omega, fun hp => ?_⟩
  obtain ⟨ad, e, hc⟩ := h.2 (by omega)
  refine ⟨ad, e, fun j hj => ?_⟩
  have := hc j (by omega)
  simpa only [vN, vL, List.getElem?_take, if_pos hj] using this
theorem freshB_take {vs : List (ByteArray × Int)} {nm : ByteArray} {k : Nat} : freshB (vs.take k) nm k = freshB vs nm k := by
  cases h : freshB vs nm k
  · cases h' : freshB (vs.take k) nm k
    · rfl
    · have : freshB vs nm k = true := allTo_yes fun j hj => by
        have := allTo_of h' j hj
        simpa only [vN, List.getElem?_take, if_pos hj] using this
      rw [h] at this; cases this
  · exact allTo_yes fun j hj => by
      have := allTo_of h j hj
      simpa only [vN, List.getElem?_take, if_pos hj] using this

set_option maxHeartbeats 1000000 in
theorem sGood_any (A : Option Addr) (n c : Nat) (vs : List (ByteArray × Int)) (w : World) (hx : VarsR w A n vs) (hs : ∀ j, j < n → (vN vs j).size ≤ 1099511627776) (hn : n ≤ 1099511627776) (hcap : n ≤ c) :
    Calls Tryz.prog 74 #[.slice A n c] w fun e w' => e = .returned (.bool (schB vs)) ∧ Below w.heap.size w w' := by
  have hl := Lib.hid hx.1
  cases hin : inR n 1 6
  · have H := Lib.hid hin
    have hno : ¬ (1 ≤ n ∧ n ≤ 6) := fun h => by rw [inR_yes (by omega) (by omega)] at hin; cases hin
    have R := Lib.hid (schB_len hl.out hno).symm
    clear hin
    go_enter Tryz.func74, Tryz.ntmps74
    go_wp2_with (go_at_call 29; refine (l1In_any _ _ _ _).mono ?_; rintro e w2 ⟨rfl, rfl⟩; rw [H.out])
    go_ret
    exact ⟨ret_bool R.out, Below.refl _ _⟩
  have H := Lib.hid hin
  have h16 := inR_of hin
  clear hin
  go_enter Tryz.func74, Tryz.ntmps74
  go_wp2_with (go_at_call 29; refine (l1In_any _ _ _ _).mono ?_; rintro e w2 ⟨rfl, rfl⟩; rw [H.out])
  go_loopw [11] (fun i wr => ∃ k : Nat, k ≤ n ∧ i = .int .i64 k ∧ Hid (∀ t, t < k → varOk vs t = true) ∧ Below w.heap.size w wr) (fun i _ => n - (intOf i).toNat)
  case atStart => exact ⟨0, Nat.zero_le _, rfl, Lib.hid fun t ht => absurd ht (by omega), Below.refl _ _⟩
  case round =>
    obtain ⟨k, hk, rfl, hall, hbw⟩ := hrel
    obtain ⟨wo, rfl⟩ : ∃ wo : World, wo = wr := ⟨_, rfl⟩
    by_cases hlt : k < n
    · have HX := Lib.hid (hx.below hbw)
      obtain ⟨ad, rfl, hc, hc'⟩ := HX.out.at_ hlt
      have hsk := hs k hlt
      have W0 := Lib.hid (fun h => schB_no hl.out hlt (varOk_word h))
      have L0 := Lib.hid (fun h => schB_no hl.out hlt (varOk_lev h))
      have N0 := Lib.hid (fun (h : freshB vs (vN vs k) k = false) => schB_no hl.out hlt (show varOk vs k = false by simp [varOk, h]))
      have Y0 := Lib.hid (fun (h1 : wordB (vN vs k) = true) (h2 : inR (vL vs k) 2 8 = true) (h3 : freshB vs (vN vs k) k = true) => (show varOk vs k = true by simp [varOk, h1, h2, h3]))
      have F0 := Lib.hid (freshB_take (vs := vs) (nm := vN vs k) (k := k))
      clear hx hs
      obtain ⟨s, hse⟩ : ∃ s, vN vs k = s := ⟨_, rfl⟩
      obtain ⟨x, hxe⟩ : ∃ x, vL vs k = x := ⟨_, rfl⟩
      rw [hse] at hc hsk W0 N0 Y0 F0
      rw [hxe] at hc' L0 Y0
      clear hse hxe
      have hb2 := hbw.alloc hbw.size (.cells #[.string s, .int .i64 x] 105)
      have X1 := Lib.hid ((HX.out.below (below_new wo (.cells #[.string s, .int .i64 x] 105))).take (k := k) (by omega))
      have C0 := box_cell (box_new wo #[.string s, .int .i64 x] 105) 0 (.string s) rfl
      have C1 := box_cell (box_new wo #[.string s, .int .i64 x] 105) 1 (.int .i64 x) rfl
      obtain ⟨bW, hW⟩ : ∃ b, wordB s = b := ⟨_, rfl⟩
      obtain ⟨bL, hL⟩ : ∃ b, inR x 2 8 = b := ⟨_, rfl⟩
      obtain ⟨bF, hF⟩ : ∃ b, freshB vs s k = b := ⟨_, rfl⟩
      have HW := Lib.hid hW
      have HL := Lib.hid hL
      have HF := Lib.hid (F0.out.trans hF)
      have HF0 := Lib.hid hF
      clear hW hL hF
      go_wp2_with fail
      clear hc hc'
      generalize wo.alloc (.cells #[.string s, .int .i64 x] 105) = w1 at *
      go_cut [34] from 16 to 35 (fun b wx => b = .bool (!(bW && (bL && bF))) ∧ Below w1.heap.size w1 wx)
      case first =>
        have B0 := (Below.refl w1.heap.size w1).drew
        cases bW
        · have c1 : ∀ W : World, Calls Tryz.prog 104 #[.string s] W fun e w' => e = .returned (.bool false) ∧ w' = W := fun W => (sName_any s W hsk).mono fun e w' ⟨h1, h2⟩ => ⟨by rw [h1, HW.out], h2.symm⟩
          go_quiet ((go_at_call 104; exact Calls.quiet_of_same (c1 _)))
          go_wp2_with fail
          go_meet
          exact ⟨rfl, below_drewN (Below.refl _ _) _⟩
        have c1 : ∀ W : World, Calls Tryz.prog 104 #[.string s] W fun e w' => e = .returned (.bool true) ∧ w' = W := fun W => (sName_any s W hsk).mono fun e w' ⟨h1, h2⟩ => ⟨by rw [h1, HW.out], h2.symm⟩
        cases bL
        · have c2 : ∀ W : World, Calls Tryz.prog 29 #[.int .i64 x, .int .i64 2, .int .i64 8] W fun e w' => e = .returned (.bool false) ∧ w' = W := fun W => (l1In_any x 2 8 W).mono fun e w' ⟨h1, h2⟩ => ⟨by rw [h1, HL.out], h2.symm⟩
          go_quiet ((first | (go_at_call 104; exact Calls.quiet_of_same (c1 _)) | (go_at_call 29; exact Calls.quiet_of_same (c2 _))))
          go_wp2_with fail
          go_meet
          exact ⟨rfl, below_drewN (Below.refl _ _) _⟩
        have c2 : ∀ W : World, Calls Tryz.prog 29 #[.int .i64 x, .int .i64 2, .int .i64 8] W fun e w' => e = .returned (.bool true) ∧ w' = W := fun W => (l1In_any x 2 8 W).mono fun e w' ⟨h1, h2⟩ => ⟨by rw [h1, HL.out], h2.symm⟩
        have B0 := (Below.refl w1.heap.size w1).drew
        have hsz := hb2.size
        have hlt1 := block_lt_of_cell C0
        have i0 : (0 : Int) ≤ (k : Int) := by omega
        have i1 : (k : Int) ≤ (n : Int) := by omega
        have i2 : (k : Int) ≤ (c : Int) := by omega
        go_region_held3 (fun w' => w'.cell? ⟨wo.heap.size, 0, none⟩ = some (.string s) ∧ w'.cell? ⟨wo.heap.size, 1, none⟩ = some (.int .i64 x)) (go_keep) (first
          | (go_at_call 104; refine (c1 _).mono ?_; rintro e w2 ⟨rfl, rfl⟩)
          | (go_at_call 29; refine (c2 _).mono ?_; rintro e w2 ⟨rfl, rfl⟩)
          | (go_at_call 105; refine (sFind_any _ k c (vs.take k) s _ (by exact X1.out) (by omega)).mono ?_; rintro e w2 ⟨r, rfl, hry, hrn, hb3⟩; have D0 := (hb3.cell (p := ⟨wo.heap.size, 0, none⟩) hlt1).trans C0; have D1 := (hb3.cell (p := ⟨wo.heap.size, 1, none⟩) hlt1).trans C1; have B1 := B0.trans (hb3.mono B0.size)))
        go_wp2_with fail
        go_meet
        cases bF
        · exact ⟨by rw [decide_eq_true (hrn HF.out)]; rfl, B1⟩
        · exact ⟨by rw [decide_eq_false (Int.not_le.2 (hry HF.out))]; rfl, B1⟩
      case rest =>
        obtain ⟨rfl, hb⟩ := hcut
        have hb3 := hb2.trans (hb.mono hb2.size)
        cases bW
        · have R := Lib.hid (W0.out HW.out).symm
          go_wp2
          go_ret
          exact ⟨ret_bool R.out, hb3⟩
        cases bL
        · have R := Lib.hid (L0.out (fun h => by have := HL.out; rw [inR_yes h.1 h.2] at this; cases this)).symm
          go_wp2
          go_ret
          exact ⟨ret_bool R.out, hb3⟩
        cases bF
        · have R := Lib.hid (N0.out HF0.out).symm
          go_wp2
          go_ret
          exact ⟨ret_bool R.out, hb3⟩
        have R := Lib.hid (Y0.out HW.out HL.out HF0.out)
        go_wp2
        go_roundw
        case rel => exact ⟨k + 1, by omega, by go_num, Lib.hid fun t ht => by
                      rcases Nat.lt_or_ge t k with h' | h'
                      · exact hall.out t h'
                      · obtain rfl : t = k := by omega
                        exact R.out, hb3⟩
        case measure => simp [intOf]; omega
    · obtain rfl : k = n := by omega
      have R := Lib.hid (schB_yes hl.out (by omega) hall.out).symm
      go_wp2
      go_ret
      exact ⟨ret_bool R.out, hbw⟩
end
end Go.Proofs.YtahbcnclhohnaaaGreat
