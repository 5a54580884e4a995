/- slices.Equal at ints (taken out of XTbsA by gfg.py). -/
import Derived.Test.YtahbcnclhohnaaaGreatZe
namespace Go.Proofs.YtahbcnclhohnaaaGreat
open Go.RowKit

set_option maxRecDepth 100000 in
set_option maxHeartbeats 2000000 in
theorem slEqual_any (A B : Option Addr) (n c m d : Nat) (xs ys : List Int) (w : World) (hx : IntR w A n xs) (hy : IntR w B m ys) :
    Calls Tryz.prog 44 #[.slice A n c, .slice B m d] w fun e w' => e = .returned (.bool (xs == ys)) ∧ Below w.heap.size w w' := by
  have hn := hx.bd
  have hm := hy.bd
  have hl1 := Lib.hid hx.len
  have hl2 := Lib.hid hy.len
  by_cases hnm : n = m
  rotate_left
  · have R := Lib.hid (show false = (xs == ys) by symm; rw [beq_eq_false_iff_ne]; intro h; apply hnm; rw [← hl1.out, ← hl2.out, h])
    have hq : ((n : Int) != m) = true := by simpa using fun h => hnm (by exact_mod_cast h)
    clear hnm hx hy
    go_enter Tryz.func44, Tryz.ntmps44
    go_wp2
    go_ret
    exact ⟨ret_bool R.out, Below.refl _ _⟩
  subst hnm
  go_enter Tryz.func44, Tryz.ntmps44
  go_wp2
  go_loopw [13] (fun i wr => ∃ (k q : Nat), k ≤ n ∧ i = .int .i64 k ∧ Hid (∀ t, t < k → xs[t]?.getD 0 = ys[t]?.getD 0) ∧ wr = w.drewN q) (fun i _ => n - (intOf i).toNat)
  case atStart => exact ⟨0, 0, Nat.zero_le _, rfl, Lib.hid (fun t ht => absurd ht (by omega)), rfl⟩
  case round =>
    obtain ⟨k, q, hk, rfl, he, rfl⟩ := hrel
    by_cases hlt : k < n
    · obtain ⟨ad, rfl, hc⟩ := hx.i.at_ hlt
      obtain ⟨ad', rfl, hc'⟩ := hy.i.at_ hlt
      have HN := Lib.hid (fun (h : ¬ xs[k]?.getD 0 = ys[k]?.getD 0) => show false = (xs == ys) by symm; rw [beq_eq_false_iff_ne]; intro h9; exact h (by rw [h9]))
      have HA := Lib.hid (fun h => all_succ (p := fun t => xs[t]?.getD 0 = ys[t]?.getD 0) he.out h)
      clear hx hy he
      generalize xs[k]?.getD 0 = x at *
      generalize ys[k]?.getD 0 = y at *
      by_cases hxy : x = y
      · have HA2 := Lib.hid (HA.out hxy)
        clear HA HN
        subst hxy
        go_wp2
        go_quiet (fail)
        go_wp2
        go_roundw
        case rel => exact ⟨k + 1, _, by omega, by go_num, HA2, rfl⟩
        case measure => simp [intOf]; omega
      · have R := Lib.hid (HN.out hxy)
        have hq : (x != y) = true := by simpa using hxy
        clear HA HN hxy
        go_wp2
        go_quiet (fail)
        go_wp2
        go_ret
        exact ⟨ret_bool R.out, below_drewN (below_drewN (Below.refl _ _) _) _⟩
    · obtain rfl : k = n := by omega
      have R := Lib.hid (show true = (xs == ys) by
        symm
        rw [beq_iff_eq]
        apply List.ext_getElem?
        intro t
        rcases Nat.lt_or_ge t k with h | h
        · have h1 := he.out t h
          rw [List.getElem?_eq_getElem (by rw [hl1.out]; exact h), List.getElem?_eq_getElem (by rw [hl2.out]; exact h)] at h1 ⊢
          rw [Option.getD_some, Option.getD_some] at h1
          rw [h1]
        · rw [List.getElem?_eq_none (by rw [hl1.out]; exact h), List.getElem?_eq_none (by rw [hl2.out]; exact h)])
      clear hx hy
      go_wp2
      go_ret
      exact ⟨ret_bool R.out, below_drewN (Below.refl _ _) q⟩
end Go.Proofs.YtahbcnclhohnaaaGreat
