/- What the drawn laws use beside: bytes as they come in, and the laws' own helpers. -/
import Derived.Test.YtgfihfmlofgopaaDrawB
namespace Go.Proofs.Ytgfihfmlofgopaa
open Go.RowKit

/-- A slice of bytes that reads as a list. -/
def Bytes (w : World) (A : Option Addr) (n : Nat) (zs : List Int) : Prop :=
  zs.length = n ∧ (0 < n → ∃ ad, A = some ad ∧ ∀ j, j < n → w.cell? (ad.add j) = some (.int .u8 (zs[j]?.getD 0)))
theorem Bytes.nil_ {w : World} {A : Option Addr} : Bytes w A 0 [] := ⟨rfl, fun h => absurd h (by omega)⟩
theorem Bytes.of_row {w : World} {ad : Addr} {len cap : Nat} {zs : List Int} (hz : cap ≤ zs.length) (hl : len ≤ cap) (hc : ∀ i, i < zs.length → w.cell? (ad.add i) = some (.int .u8 (zs.getD i 0))) : Bytes w (some ad) len (zs.take len) := by
  refine ⟨by rw [List.length_take]; omega, fun _ => ⟨ad, rfl, fun j hj => ?_⟩⟩
  rw [hc j (by omega), List.getElem?_take, if_pos hj]
  rfl
theorem wf_u8 {x : Int} (h : (Lit.int .u8 x).wf = true) : 0 ≤ x ∧ x ≤ 255 := by
  simp [Lit.wf, IntKind.min, IntKind.max, IntKind.signed, IntKind.bits] at h
  omega
theorem byt_of {w : World} {A : Option Addr} {n : Nat} {zs : List Int} (h : Bytes w A n zs) (hf : ∀ x ∈ zs, (Lit.int .u8 x).wf = true) : Byt w A n := fun j hj => by
  obtain ⟨ad, e, hc⟩ := h.2 (by omega)
  have h1 := hc j hj
  have h2 := wf_u8 (hf _ (List.getElem_mem (show j < zs.length by have := h.1; omega)))
  rw [List.getElem?_eq_getElem (by have := h.1; omega)] at h1
  exact ⟨ad, e, by have := block_lt_of_cell h1; rwa [block_add] at this, _, h2.1, h2.2, h1⟩

/-- Whether two inputs are too long. -/
def bigB (n m : Nat) : Bool := decide ((1048576 : Int) < n) || decide (1048576 - (n : Int) < m)
theorem bigB_of {n m : Nat} (h : bigB n m = false) : n ≤ 1048576 ∧ m ≤ 1048576 := by
  simp [bigB] at h; omega
set_option maxHeartbeats 400000 in
theorem big_any (A A' : Option Addr) (n c m c' : Nat) (w : World) (hn : n ≤ maxLen) :
    Calls Try.prog 4 #[.slice A n c, .slice A' m c'] w fun e w' => e = .returned (.bool (bigB n m)) ∧ w = w' := by
  unfold maxLen at hn
  by_cases h1 : 1048576 < n
  · have E := Lib.hid (show bigB n m = true by simp [bigB]; omega)
    go_enter Try.func4, Try.ntmps4
    go_wp2
    go_ret
    exact ⟨ret_bool E.out.symm, rfl⟩
  · have E := Lib.hid (show bigB n m = (decide ((1048576 : Int) < n) || decide (1048576 - (n : Int) < m)) from rfl)
    go_enter Try.func4, Try.ntmps4
    go_wp2
    go_ret
    exact ⟨ret_bool E.out.symm, rfl⟩

end Go.Proofs.Ytgfihfmlofgopaa
