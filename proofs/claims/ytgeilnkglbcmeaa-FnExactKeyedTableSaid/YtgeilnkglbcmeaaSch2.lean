/- Schemas: names found, and the whole test, of the program and of the reference. -/
import Derived.Test.YtgeilnkglbcmeaaSch
import Derived.Deep.RegionWith
import Derived.Deep.DeepCutAuto
namespace Go.Proofs.Ytgeilnkglbcmeaa
open Go.RowKit

def nmEq (s t : ByteArray) : Bool := s.toList == t.toList
def freshB (vs : List (ByteArray × Int)) (nm : ByteArray) (n : Nat) : Bool := allTo (fun j => !nmEq (vN vs j) nm) n
def varOk (vs : List (ByteArray × Int)) (i : Nat) : Bool := wordB (vN vs i) && (inR (vL vs i) 2 8 && freshB vs (vN vs i) i)
def schB (vs : List (ByteArray × Int)) : Bool := inR vs.length 1 6 && allTo (varOk vs) vs.length
theorem schB_no {vs : List (ByteArray × Int)} {k n : Nat} (hl : vs.length = n) (hk : k < n) (h : varOk vs k = false) : schB vs = false := by
  unfold schB; rw [allTo_no (by omega) h, Bool.and_false]
theorem schB_len {vs : List (ByteArray × Int)} {n : Nat} (hl : vs.length = n) (h : ¬ (1 ≤ n ∧ n ≤ 6)) : schB vs = false := by
  unfold schB; rw [inR_no (by omega)]; rfl
theorem schB_yes {vs : List (ByteArray × Int)} {n : Nat} (hl : vs.length = n) (h : 1 ≤ n ∧ n ≤ 6) (ha : ∀ i, i < n → varOk vs i = true) : schB vs = true := by
  unfold schB; rw [inR_yes (by omega) (by omega), allTo_yes (by rw [hl]; exact ha)]; rfl
theorem schB_of {vs : List (ByteArray × Int)} (h : schB vs = true) : (1 ≤ vs.length ∧ vs.length ≤ 6) ∧ ∀ i, i < vs.length → 2 ≤ vL vs i ∧ vL vs i ≤ 8 := by
  simp only [schB, Bool.and_eq_true] at h
  have h1 := inR_of h.1
  refine ⟨by omega, fun i hi => ?_⟩
  have h2 := allTo_of h.2 i hi
  simp only [varOk, Bool.and_eq_true] at h2
  exact inR_of h2.2.1
theorem varOk_word {vs : List (ByteArray × Int)} {k : Nat} (h : wordB (vN vs k) = false) : varOk vs k = false := by simp [varOk, h]
theorem varOk_lev {vs : List (ByteArray × Int)} {k : Nat} (h : ¬ (2 ≤ vL vs k ∧ vL vs k ≤ 8)) : varOk vs k = false := by simp [varOk, inR_no h]
theorem varOk_name {vs : List (ByteArray × Int)} {k j : Nat} (hj : j < k) (h : nmEq (vN vs j) (vN vs k) = true) : varOk vs k = false := by
  have : freshB vs (vN vs k) k = false := allTo_no hj (by simp [h])
  simp [varOk, this]
theorem varOk_yes {vs : List (ByteArray × Int)} {k : Nat} (h1 : wordB (vN vs k) = true) (h2 : 2 ≤ vL vs k ∧ vL vs k ≤ 8) (h3 : ∀ j, j < k → nmEq (vN vs j) (vN vs k) = false) : varOk vs k = true := by
  have : freshB vs (vN vs k) k = true := allTo_yes fun j hj => by simp [h3 j hj]
  simp [varOk, h1, inR_yes h2.1 h2.2, this]

set_option maxHeartbeats 1000000 in
theorem IsSchema_any (A : Option Addr) (n c : Nat) (vs : List (ByteArray × Int)) (w : World) (hx : VarsR w A n vs) (hs : ∀ j, j < n → (vN vs j).size ≤ 1099511627776) (hn : n ≤ 1099511627776) (hcap : n ≤ c) :
    Calls Try.prog 76 #[.slice A n c] w fun e w' => e = .returned (.bool (schB vs)) ∧ Below w.heap.size w w' := by
  have hl := Lib.hid hx.1
  by_cases h1 : 1 ≤ n
  · by_cases h6 : n ≤ 6
    · go_enter Try.func76, Try.ntmps76
      go_wp2
      go_loopw [17] (fun i wr => ∃ k : Nat, k ≤ n ∧ i = .int .i64 k ∧ Hid (∀ t, t < k → varOk vs t = true) ∧ Below w.heap.size w wr) (fun i _ => n - (intOf i).toNat)
      case atStart => exact ⟨0, Nat.zero_le _, rfl, Lib.hid fun t ht => absurd ht (by omega), Below.refl _ _⟩
      case round =>
        obtain ⟨k, hk, rfl, hall, hbw⟩ := hrel
        obtain ⟨wo, rfl⟩ : ∃ wo : World, wo = wr := ⟨_, rfl⟩
        by_cases hlt : k < n
        · have HX := Lib.hid (hx.below hbw)
          obtain ⟨ad, rfl, hc, hc'⟩ := HX.out.at_ hlt
          have hsk := hs k hlt
          have W0 := Lib.hid (fun h => schB_no hl.out hlt (varOk_word h))
          have L0 := Lib.hid (fun h => schB_no hl.out hlt (varOk_lev h))
          have N0 := Lib.hid (fun j (hj : j < k) h => schB_no hl.out hlt (varOk_name hj h))
          have Y0 := Lib.hid (fun h1 h2 h3 => varOk_yes (vs := vs) (k := k) h1 h2 h3)
          clear hx hs
          obtain ⟨s, hse⟩ : ∃ s, vN vs k = s := ⟨_, rfl⟩
          obtain ⟨x, hxe⟩ : ∃ x, vL vs k = x := ⟨_, rfl⟩
          rw [hse] at hc hsk W0 N0 Y0
          rw [hxe] at hc' L0 Y0
          clear hse hxe
          have hb2 := hbw.alloc hbw.size (.cells #[.string s, .int .i64 x] 89)
          cases hW : wordB s
          · have HW := Lib.hid hW
            have R := Lib.hid (W0.out hW).symm
            clear hW
            go_wp2_with (go_at_call 121; refine (isWord_any s _ hsk).mono ?_; rintro e w2 ⟨rfl, rfl⟩; rw [HW.out])
            go_ret
            exact ⟨ret_bool R.out, hb2⟩
          · have HW := Lib.hid hW
            clear hW
            by_cases hx2 : x < 2
            · have R := Lib.hid (L0.out (by omega)).symm
              go_wp2_with (go_at_call 121; refine (isWord_any s _ hsk).mono ?_; rintro e w2 ⟨rfl, rfl⟩; rw [HW.out])
              go_ret
              exact ⟨ret_bool R.out, hb2⟩
            by_cases hx8 : 8 < x
            · have R := Lib.hid (L0.out (by omega)).symm
              go_wp2_with (go_at_call 121; refine (isWord_any s _ hsk).mono ?_; rintro e w2 ⟨rfl, rfl⟩; rw [HW.out])
              go_ret
              exact ⟨ret_bool R.out, hb2⟩
            have R1 := Lib.hid (Y0.out HW.out (by omega))
            have X1 := Lib.hid (HX.out.below (below_new wo (.cells #[.string s, .int .i64 x] 89)))
            have C1 := box_cell (box_new wo #[.string s, .int .i64 x] 89) 0 (.string s) rfl
            have S1 : wo.heap.size < (wo.alloc (.cells #[.string s, .int .i64 x] 89)).heap.size := by simp
            go_wp2_with (go_at_call 121; refine (isWord_any s _ hsk).mono ?_; rintro e w2 ⟨rfl, rfl⟩; rw [HW.out])
            clear hc hc'
            generalize wo.alloc (.cells #[.string s, .int .i64 x] 89) = w1 at *
            go_loopw [40] (fun i wq => ∃ j : Nat, j ≤ k ∧ i = .int .i64 j ∧ Hid (∀ t, t < j → nmEq (vN vs t) s = false) ∧ Below w1.heap.size w1 wq) (fun i _ => k - (intOf i).toNat)
            case atStart => exact ⟨0, Nat.zero_le _, rfl, Lib.hid fun t ht => absurd ht (by omega), Below.refl _ _⟩
            case round =>
              obtain ⟨j, hj, rfl, hno, hbq⟩ := hrel
              by_cases hjk : j < k
              · obtain ⟨ad', e, hd, hd'⟩ := (X1.out.below hbq).at_ (show j < n by omega)
                injection e with e
                subst e
                have C2 := (hbq.cell (p := ⟨wo.heap.size, 0, none⟩) S1).trans C1
                have S2 := Nat.lt_of_lt_of_le S1 hbq.size
                have N1 := Lib.hid (N0.out j hjk)
                have M1 := Lib.hid (fun (h : nmEq (vN vs j) s = false) => (show ∀ t, t < j + 1 → nmEq (vN vs t) s = false from fun t ht => by
                  rcases Nat.lt_or_ge t j with h' | h'
                  · exact hno.out t h'
                  · obtain rfl : t = j := by omega
                    exact h))
                obtain ⟨s', hse'⟩ : ∃ s', vN vs j = s' := ⟨_, rfl⟩
                rw [hse'] at hd N1 M1
                clear hse'
                have hb3 := hb2.trans (hbq.mono hb2.size)
                have hb4 := Lib.hid hb3
                have hsz := hb3.size
                cases hE : s'.toList == s.toList
                · have R := Lib.hid (M1.out hE)
                  go_wp2
                  go_roundw
                  case rel => exact ⟨j + 1, by omega, by go_num, R, hbq.alloc hbq.size _⟩
                  case measure => simp [intOf]; omega
                · have R := Lib.hid (N1.out hE).symm
                  go_wp2
                  go_ret
                  exact ⟨ret_bool R.out, hb4.out.alloc hsz _⟩
              · obtain rfl : j = k := by omega
                have R := Lib.hid (R1.out hno.out)
                have hb3 := hb2.trans (hbq.mono hb2.size)
                go_wp2
                go_roundw
                case rel => exact ⟨j + 1, by omega, by go_num, Lib.hid fun t ht => by
                              rcases Nat.lt_or_ge t j with h' | h'
                              · exact hall.out t h'
                              · obtain rfl : t = j := by omega
                                exact R.out, hb3⟩
                case measure => simp [intOf]; omega
        · obtain rfl : k = n := by omega
          have R := Lib.hid (schB_yes hl.out ⟨h1, h6⟩ hall.out).symm
          go_wp2
          go_ret
          exact ⟨ret_bool R.out, hbw⟩
    · have R := Lib.hid (schB_len hl.out (by omega)).symm
      go_enter Try.func76, Try.ntmps76
      go_wp2
      go_ret
      exact ⟨ret_bool R.out, Below.refl _ _⟩
  · have R := Lib.hid (schB_len hl.out (by omega)).symm
    go_enter Try.func76, Try.ntmps76
    go_wp2
    go_ret
    exact ⟨ret_bool R.out, Below.refl _ _⟩
end Go.Proofs.Ytgeilnkglbcmeaa
