/- What the drawn laws use beside: bytes as they come in, and the laws' own helpers. -/
import Derived.Test.YtfanpbfmnckmnaaGreatYb
namespace Go.Proofs.YtfanpbfmnckmnaaGreat
open Go.RowKit

/-- A slice of bytes that reads as a list. -/
def Bytes (w : World) (A : Option Addr) (n : Nat) (zs : List Int) : Prop :=
  zs.length = n ∧ (0 < n → ∃ ad, A = some ad ∧ ∀ j, j < n → w.cell? (ad.add j) = some (.int .u8 (zs[j]?.getD 0)))
theorem Bytes.nil_ {w : World} {A : Option Addr} : Bytes w A 0 [] := ⟨rfl, fun h => absurd h (by omega)⟩
theorem Bytes.of_row {w : World} {ad : Addr} {len cap : Nat} {zs : List Int} (hz : cap ≤ zs.length) (hl : len ≤ cap) (hc : ∀ i, i < zs.length → w.cell? (ad.add i) = some (.int .u8 (zs.getD i 0))) : Bytes w (some ad) len (zs.take len) := by
  refine ⟨by rw [List.length_take]; omega, fun _ => ⟨ad, rfl, fun j hj => ?_⟩⟩
  rw [hc j (by omega), List.getElem?_take, if_pos hj]
  rfl
theorem wf_u8 {x : Int} (h : (Lit.int .u8 x).wf = true) : 0 ≤ x ∧ x ≤ 255 := by
  simp [Lit.wf, IntKind.min, IntKind.max, IntKind.signed, IntKind.bits] at h
  omega
theorem byt_of {w : World} {A : Option Addr} {n : Nat} {zs : List Int} (h : Bytes w A n zs) (hf : ∀ x ∈ zs, (Lit.int .u8 x).wf = true) : Byt w A n := fun j hj => by
  obtain ⟨ad, e, hc⟩ := h.2 (by omega)
  have h1 := hc j hj
  have h2 := wf_u8 (hf _ (List.getElem_mem (show j < zs.length by have := h.1; omega)))
  rw [List.getElem?_eq_getElem (by have := h.1; omega)] at h1
  exact ⟨ad, e, by have := block_lt_of_cell h1; rwa [block_add] at this, _, h2.1, h2.2, h1⟩

end Go.Proofs.YtfanpbfmnckmnaaGreat
