/- Seals and chains: the plain law. -/
import Derived.Test.YtfkgpccanagioaaSealLaws
import Derived.Test.YtfkgpccanagioaaOpenSeal
namespace Go.Proofs.Ytfkgpccanagioaa
open Go.RowKit

/-- A seal is opened by what was sealed. -/
theorem open_seal {a b : Int} (h : twoB a b = true) : openV (sealV a b) a b = true := by
  unfold openV sealV
  rw [if_pos h, h]
  simp
theorem sealL_len (ps ns : List Int) : (sealL ps ns).length = ps.length := by unfold sealL; exact tabl_len _ _
/-- The first bad part of what was sealed is none. -/
theorem seal_parts {ps ns : List Int} (h : partsB ps ns = true) : fbpV (sealsV ps ns) ps ns = ps.length ∧ fbpB (sealsV ps ns) ps ns = true := by
  have e : sealsV ps ns = sealL ps ns := by unfold sealsV; rw [if_pos h]
  have hb : fbpB (sealsV ps ns) ps ns = true := by unfold fbpB; rw [h, e, sealL_len]; simp
  refine ⟨?_, hb⟩
  unfold fbpV
  rw [if_pos hb, e, firstNo_end (fun j _ => sameAt_yes rfl)]
/-- The first bad link of a list's own chain is none. -/
theorem chain_good {xs : List Int} (h : chainB xs = true) : fblV xs (chainV xs) = xs.length ∧ fblB xs (chainV xs) = true := by
  have hn : xs.length ≤ 392 := by simpa [chainB] using h
  have e : chainV xs = chainL xs := by unfold chainV; rw [if_pos hn]
  have hl : (chainL xs).length = xs.length := by unfold chainL; exact tabl_len _ _
  rw [e]
  refine ⟨?_, by unfold fblB; simp [hn, hl]⟩
  unfold fblV
  rw [if_pos ⟨hn, hl⟩, firstNo_end (fun j _ => sameAt_yes rfl)]
theorem lastC_take (xs : List Int) (m k : Nat) (h : k ≤ m) : lastC (xs.take m) k = lastC xs k := by
  induction k with
  | zero => rfl
  | succ k ih =>
    show dig [4, lastC (xs.take m) k, (xs.take m)[k]?.getD 0] = dig [4, lastC xs k, xs[k]?.getD 0]
    rw [ih (by omega), List.getElem?_take, if_pos (by omega)]
/-- A beginning of the list has the beginning of the chain. -/
theorem chain_take {xs : List Int} {m : Nat} (hm : m ≤ xs.length) (h : chainB xs = true) : chainV (xs.take m) = (chainV xs).take m ∧ chainB (xs.take m) = true := by
  have hn : xs.length ≤ 392 := by simpa [chainB] using h
  have hl : (xs.take m).length = m := by rw [List.length_take]; omega
  refine ⟨?_, by simp [chainB]; omega⟩
  unfold chainV
  rw [if_pos (by omega), if_pos hn]
  apply List.ext_getElem?
  intro i
  rw [List.getElem?_take]
  unfold chainL
  rw [hl]
  rcases Nat.lt_or_ge i m with hi | hi
  · rw [if_pos hi]
    unfold tabl
    rw [List.getElem?_map, List.getElem?_map, List.getElem?_range hi, List.getElem?_range (show i < xs.length by omega)]
    simp only [Option.map_some]
    rw [lastC_take _ _ _ (by omega)]
  · rw [if_neg (by omega), List.getElem?_eq_none (by rw [tabl_len]; exact hi)]
theorem ints_take {w : World} {A : Option Addr} {n m : Nat} {xs : List Int} (h : Ints w A n xs) (hm : m ≤ n) : Ints w A m (xs.take m) := by
  refine ⟨by rw [List.length_take]; have := h.1; omega, fun h0 => ?_⟩
  obtain ⟨ad, e, hc⟩ := h.2 (by omega)
  refine ⟨ad, e, fun j hj => ?_⟩
  rw [hc j (by omega), List.getElem?_take, if_pos hj]
end Go.Proofs.Ytfkgpccanagioaa
