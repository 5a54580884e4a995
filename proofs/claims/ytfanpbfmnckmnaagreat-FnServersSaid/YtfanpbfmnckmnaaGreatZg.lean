/- Several small texts in one: Same, Sets, SetsL, LawU. -/
import Derived.Test.YtfanpbfmnckmnaaGreatZf
import Derived.Test.YtfanpbfmnckmnaaGreatYa
import Derived.Deep.RegionHeld3
namespace Go.Proofs.YtfanpbfmnckmnaaGreat

section
open Go.RowKit
end

section
open Go.RowKit

/-- A row of rows of ints of the call's own, in blocks from lo on and below hi. -/
structure OwnII (w : World) (lo hi : Nat) (A : Option Addr) (n c : Nat) (L : Nat → List Int) : Prop where
  cells : ∃ ys, w.ownsRow lo 22 1 (.slice A n c) n ys ∧ Sub w lo hi ys 1 0 L 0 n
  top : ∀ k, rowOf A = some k → k < hi
  small : n ≤ 1099511627776
section
variable {w w' : World} {A : Option Addr} {n c lo hi : Nat} {L : Nat → List Int}
theorem OwnII.keep (h : OwnII w lo hi A n c L) (hk : ∀ g, lo ≤ g → g < hi → g < w.heap.size → w'.heap[g]? = w.heap[g]?) : OwnII w' lo hi A n c L := by
  obtain ⟨ys, h1, h3⟩ := h.cells
  exact ⟨⟨ys, row_keep h1 fun g hl hA hg => hk g hl (h.top g hA) hg, h3.keep hk⟩, h.top, h.small⟩
theorem OwnII.below (h : OwnII w lo hi A n c L) (hb : Below w.heap.size w w') : OwnII w' lo hi A n c L := h.keep fun g _ _ hg => hb.block g hg
/-- What it reads as. -/
def IntsS (w : World) (A : Option Addr) (n : Nat) (L : Nat → List Int) : Prop :=
  0 < n → ∃ ad, A = some ad ∧ ∀ j, j < n → ∃ V c, w.cell? (ad.add j) = some (.slice V (L j).length c) ∧ Ints w V (L j).length (L j)
theorem IntsS.below (h : IntsS w A n L) (hb : Below w.heap.size w w') : IntsS w' A n L := fun hn => by
  obtain ⟨ad, e, hc⟩ := h hn
  refine ⟨ad, e, fun j hj => ?_⟩
  obtain ⟨V, c, c0, hi⟩ := hc j hj
  exact ⟨V, c, (hb.cell (block_lt_of_cell c0)).trans c0, hi.below hb⟩
end
theorem Tryz.infoIntS : (Tryz.prog.info? 22).map (fun i => (i.zero, i.size, i.bytes)) = some (some (.slice none 0 0), 1, 24) := by kernel_rfl

theorem RecsR.later {w w' : World} {A : Option Addr} {n k : Nat} {rs : List RecD} (h : RecsR w A n rs) (hb : Below w.heap.size w w') (hk : k < n) : ∃ ad, A = some ad ∧ w'.cell? (ad.add (k * 3)) = some (.int .i64 (rA rs k)) ∧ w'.cell? ⟨(ad.add (k * 3)).block, (ad.add (k * 3)).off + 1, none⟩ = some (.int .i64 (rH rs k)) ∧
    ∃ V m c, w'.cell? ⟨(ad.add (k * 3)).block, (ad.add (k * 3)).off + 2, none⟩ = some (.slice V m c) ∧ Ints w V m (rV rs k) := by
  obtain ⟨ad, e, c0, c1, V, m, c, c2, hv⟩ := h.at_ hk
  exact ⟨ad, e, (hb.cell (block_lt_of_cell c0)).trans c0, (hb.cell (block_lt_of_cell c1)).trans c1, V, m, c, (hb.cell (block_lt_of_cell c2)).trans c2, hv⟩
end

section
open Go.RowKit

theorem OwnII.nil_ {w : World} {lo hi : Nat} {L : Nat → List Int} : OwnII w lo hi none 0 0 L := ⟨⟨[], World.ownsRow_nil _ _ _ _, ⟨fun j _ h => absurd h (by omega), fun i j g _ h1 h2 => absurd h2 (by omega)⟩⟩, (fun k hk => by cases hk), by omega⟩
end

section
open Go.RowKit
end
end Go.Proofs.YtfanpbfmnckmnaaGreat
