/- Several small texts in one: Law, Sml. -/
import Derived.Test.YtcjmapdeopffcaaYb
import Derived.Test.YtcjmapdeopffcaaZg
namespace Go.Proofs.Ytcjmapdeopffcaa

section
open Go.RowKit

/-- A slice of bytes that reads as a list. -/
def Bytes (w : World) (A : Option Addr) (n : Nat) (zs : List Int) : Prop :=
  zs.length = n ∧ (0 < n → ∃ ad, A = some ad ∧ ∀ j, j < n → w.cell? (ad.add j) = some (.int .u8 (zs[j]?.getD 0)))
theorem Bytes.nil_ {w : World} {A : Option Addr} : Bytes w A 0 [] := ⟨rfl, fun h => absurd h (by omega)⟩
theorem Bytes.of_row {w : World} {ad : Addr} {len cap : Nat} {zs : List Int} (hz : cap ≤ zs.length) (hl : len ≤ cap) (hc : ∀ i, i < zs.length → w.cell? (ad.add i) = some (.int .u8 (zs.getD i 0))) : Bytes w (some ad) len (zs.take len) := by
  refine ⟨by rw [List.length_take]; omega, fun _ => ⟨ad, rfl, fun j hj => ?_⟩⟩
  rw [hc j (by omega), List.getElem?_take, if_pos hj]
  rfl
theorem wf_u8 {x : Int} (h : (Lit.int .u8 x).wf = true) : 0 ≤ x ∧ x ≤ 255 := by
  simp [Lit.wf, IntKind.min, IntKind.max, IntKind.signed, IntKind.bits] at h
  omega
theorem byt_of {w : World} {A : Option Addr} {n : Nat} {zs : List Int} (h : Bytes w A n zs) (hf : ∀ x ∈ zs, (Lit.int .u8 x).wf = true) : Byt w A n := fun j hj => by
  obtain ⟨ad, e, hc⟩ := h.2 (by omega)
  have h1 := hc j hj
  have h2 := wf_u8 (hf _ (List.getElem_mem (show j < zs.length by have := h.1; omega)))
  rw [List.getElem?_eq_getElem (by have := h.1; omega)] at h1
  exact ⟨ad, e, by have := block_lt_of_cell h1; rwa [block_add] at this, _, h2.1, h2.2, h1⟩

/-- Whether two inputs are too long. -/
def bigB (n m : Nat) : Bool := decide ((1048576 : Int) < n) || decide (1048576 - (n : Int) < m)
theorem bigB_of {n m : Nat} (h : bigB n m = false) : n ≤ 1048576 ∧ m ≤ 1048576 := by
  simp [bigB] at h; omega
set_option maxHeartbeats 400000 in
theorem big_any (A A' : Option Addr) (n c m c' : Nat) (w : World) (hn : n ≤ maxLen) :
    Calls Try.prog 14 #[.slice A n c, .slice A' m c'] w fun e w' => e = .returned (.bool (bigB n m)) ∧ w = w' := by
  unfold maxLen at hn
  by_cases h1 : 1048576 < n
  · have E := Lib.hid (show bigB n m = true by simp [bigB]; omega)
    go_enter Try.func14, Try.ntmps14
    go_wp2
    go_ret
    exact ⟨ret_bool E.out.symm, rfl⟩
  · have E := Lib.hid (show bigB n m = (decide ((1048576 : Int) < n) || decide (1048576 - (n : Int) < m)) from rfl)
    go_enter Try.func14, Try.ntmps14
    go_wp2
    go_ret
    exact ⟨ret_bool E.out.symm, rfl⟩

set_option maxHeartbeats 400000 in
theorem sameInts_any (A A' : Option Addr) (n c c' : Nat) (xs : List Int) (w : World) (hx : Ints w A n xs) (hy : Ints w A' n xs) (hn : n ≤ 1099511627776) :
    Calls Try.prog 51 #[.slice A n c, .slice A' n c'] w fun e w' => e = .returned (.bool true) ∧ Below w.heap.size w w' := by
  go_enter Try.func51, Try.ntmps51
  go_wp2
  go_loopw [13] (fun i wr => ∃ (k q : Nat), k ≤ n ∧ i = .int .i64 k ∧ wr = w.drewN q) (fun i _ => n - (intOf i).toNat)
  case atStart => exact ⟨0, 0, Nat.zero_le _, rfl, rfl⟩
  case round =>
    obtain ⟨k, q, hk, rfl, rfl⟩ := hrel
    by_cases hlt : k < n
    · obtain ⟨ad, rfl, hc⟩ := hx.at_ hlt
      obtain ⟨ad', rfl, hc'⟩ := hy.at_ hlt
      clear hx hy
      obtain ⟨x, hxe⟩ : ∃ x, xs[k]?.getD 0 = x := ⟨_, rfl⟩
      rw [hxe] at hc hc'
      clear hxe
      go_wp2
      go_quiet (fail)
      go_wp2
      go_roundw
      case rel => exact ⟨k + 1, _, by omega, by go_num, rfl⟩
      case measure => simp [intOf]; omega
    · go_wp2
      go_ret
      exact ⟨rfl, below_drewN (Below.refl _ _) q⟩
end

section
open Go.RowKit

set_option maxHeartbeats 800000 in
theorem sameLists_any (A A' : Option Addr) (n c c' : Nat) (L : Nat → List Int) (w : World) (hx : IntsS w A n L) (hy : IntsS w A' n L) (hn : n ≤ 1099511627776) (hL : ∀ j, j < n → (L j).length ≤ 1099511627776) :
    Calls Try.prog 50 #[.slice A n c, .slice A' n c'] w fun e w' => e = .returned (.bool true) ∧ Below w.heap.size w w' := by
  go_enter Try.func50, Try.ntmps50
  go_wp2
  go_loopw [13] (fun i wr => ∃ (k : Nat), k ≤ n ∧ i = .int .i64 k ∧ Below w.heap.size w wr) (fun i _ => n - (intOf i).toNat)
  case atStart => exact ⟨0, Nat.zero_le _, rfl, Below.refl _ _⟩
  case round =>
    obtain ⟨k, hk, rfl, hbw⟩ := hrel
    by_cases hlt : k < n
    · obtain ⟨ad, rfl, V, cc, hc, hv⟩ := (hx.below hbw).at_ hlt
      obtain ⟨ad', rfl, V', cc', hd, hv'⟩ := (hy.below hbw).at_ hlt
      have hm := hL k hlt
      clear hx hy hL
      have HV := Lib.hid hv
      have HV' := Lib.hid hv'
      clear hv hv'
      generalize L k = xs at *
      generalize xs.length = m at *
      have hsz := hbw.size
      have l0 := block_lt_of_cell hc
      have m0 := block_lt_of_cell hd
      go_wp2
      go_region_held3 (fun w2 => w2.cell? (ad.add k) = some (.slice V m cc) ∧ w2.cell? (ad'.add k) = some (.slice V' m cc')) (go_keep) ((go_at_call 51; refine (sameInts_any _ _ m _ _ xs _ (by exact HV.out) (by exact HV'.out) hm).mono ?_; rintro e w2 ⟨rfl, hb2⟩; have g1 := (hb2.cell l0).trans hc; have g4 := (hb2.cell m0).trans hd; have hbw2 := hbw.drew.trans (hb2.mono hsz)))
      go_wp2
      go_roundw
      case rel => exact ⟨k + 1, by omega, by go_num, hbw2⟩
      case measure => simp [intOf]; omega
    · go_wp2
      go_ret
      exact ⟨rfl, hbw⟩
end
end Go.Proofs.Ytcjmapdeopffcaa
