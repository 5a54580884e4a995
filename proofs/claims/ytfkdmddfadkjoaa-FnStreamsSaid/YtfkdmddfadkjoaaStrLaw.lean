/- What numbers, bits and shuffles are: the plain law. -/
import Derived.Test.YtfkdmddfadkjoaaShuf
import Derived.Test.YtfkdmddfadkjoaaPick
namespace Go.Proofs.Ytfkdmddfadkjoaa
open Go.RowKit

theorem numO_ge {s : Int} {k : Nat} {a x a' : Int} (h : numO s k (some (0, a)) = some (x, a')) : a ≤ a' := by
  induction k generalizing x a' with
  | zero => simp only [numO, Option.some.injEq, Prod.mk.injEq] at h; omega
  | succ k ih =>
    cases hk : numO s k (some (0, a)) with
    | none => rw [numO_dead hk] at h; cases h
    | some r =>
      obtain ⟨y, b⟩ := r
      have hb := ih hk
      by_cases h1 : b < 1000000
      · rw [numO_go hk h1] at h
        simp only [Option.some.injEq, Prod.mk.injEq] at h
        omega
      · rw [numO_end hk (by omega)] at h; cases h
theorem belowT_ge {s n : Int} {L t : Nat} {a v a' : Int} (h : belowT s n L t a = some (v, a')) : a ≤ a' := by
  induction t generalizing a with
  | zero => cases h
  | succ t ih =>
    cases hk : numO s L (some (0, a)) with
    | none => rw [belowT_none hk] at h; cases h
    | some r =>
      obtain ⟨y, b⟩ := r
      have hb := numO_ge hk
      by_cases h1 : y < n
      · rw [belowT_yes hk h1] at h
        simp only [Option.some.injEq, Prod.mk.injEq] at h
        omega
      · rw [belowT_more hk h1] at h
        have := ih h
        omega
theorem streamB_at {s a a' : Int} (h : streamB s a = true) (h0 : 0 ≤ a') (h1 : a' ≤ 1000000) : streamB s a' = true := by
  simp only [streamB, Bool.and_eq_true] at h ⊢
  exact ⟨h.1, inR_yes h0 h1⟩
/-- What UniformBelow gives. -/
theorem uni_law {s a n v a' : Int} (h : uniR s a n = some (v, a')) : 0 ≤ v ∧ v < n ∧ a ≤ a' ∧ streamB s a' = true := by
  unfold uniR at h
  split at h
  · rename_i hc
    have ha := streamB_of hc.1
    have hb := belowM_bd h ha.1 ha.2
    exact ⟨hb.1, hb.2.1, belowT_ge h, streamB_at hc.1 hb.2.2.1 hb.2.2.2⟩
  · cases h
/-- What BitsFrom gives, bit by bit. -/
theorem bits_law {s a n a' : Int} {l : List Int} {k : Nat} (h : bitsR s a n = some (l, a')) (hk : k < l.length) : 0 ≤ a ∧ a ≤ 1000000 ∧ a + k < 1000000 ∧ bitB s (a + k) = true ∧ bitR s (a + k) = l[k]?.getD 0 := by
  unfold bitsR at h
  split at h
  · rename_i hc
    split at h
    · rename_i hn
      simp only [Option.some.injEq, Prod.mk.injEq] at h
      obtain ⟨rfl, rfl⟩ := h
      rw [tabl_len] at hk
      have ha := streamB_of hc.1
      have hb : bitB s (a + k) = true := by
        have h1 := hc.1
        simp only [streamB, bitB, Bool.and_eq_true] at h1 ⊢
        exact ⟨h1.1, inR_yes (by omega) (by omega)⟩
      exact ⟨ha.1, ha.2, by omega, hb, by rw [bitR_yes hb, tabl_at hk]⟩
    · cases h
  · cases h
/-- A list of different numbers below its length. -/
def Dif (l : List Int) (n : Nat) : Prop := l.length = n ∧ (∀ i, i < n → 0 ≤ l[i]?.getD 0 ∧ l[i]?.getD 0 < n) ∧ ∀ i j, i < n → j < n → l[i]?.getD 0 = l[j]?.getD 0 → i = j
theorem swapL_at {l : List Int} {n k i j : Nat} (hl : l.length = n) (hk : k < n) (hi : i < n) (hj : j < n) : (swapL l k i)[j]?.getD 0 = l[if j = i then k else if j = k then i else j]?.getD 0 := by
  unfold swapL
  by_cases h1 : j = i
  · subst h1
    rw [if_pos rfl, List.getElem?_set_self (by simp; omega)]
    rfl
  · rw [if_neg h1, List.getElem?_set_ne (fun h => h1 h.symm)]
    by_cases h2 : j = k
    · subst h2
      rw [if_pos rfl, List.getElem?_set_self (by omega)]
      rfl
    · rw [if_neg h2, List.getElem?_set_ne (fun h => h2 h.symm)]
theorem Dif.swap {l : List Int} {n k i : Nat} (h : Dif l n) (hk : k < n) (hi : i < n) : Dif (swapL l k i) n := by
  refine ⟨by rw [swapL_len]; exact h.1, fun j hj => ?_, fun j j' hj hj' e => ?_⟩
  · rw [swapL_at h.1 hk hi hj]
    exact h.2.1 _ (by split <;> (try split) <;> omega)
  · rw [swapL_at h.1 hk hi hj, swapL_at h.1 hk hi hj'] at e
    have := h.2.2 _ _ (by split <;> (try split) <;> omega) (by split <;> (try split) <;> omega) e
    by_cases a0 : k = i <;> by_cases a1 : j = i <;> by_cases a2 : j = k <;> by_cases a3 : j' = i <;> by_cases a4 : j' = k <;> simp only [a0, a1, a2, a3, a4, if_true, if_false] at this <;> omega
theorem Dif.iota (n : Nat) : Dif (iota n) n := by
  refine ⟨by simp [Go.Proofs.Ytfkdmddfadkjoaa.iota, tabl_len], fun i hi => ?_, fun i j hi hj e => ?_⟩
  · rw [Go.Proofs.Ytfkdmddfadkjoaa.iota, tabl_at hi]; omega
  · rw [Go.Proofs.Ytfkdmddfadkjoaa.iota, tabl_at hi, tabl_at hj] at e; omega
theorem shufT_dif {s a a' : Int} {k n : Nat} {l l' : List Int} (hd : Dif l n) (hk : k < n ∨ k = 0) (h : shufT s k l a = some (l', a')) (h0 : 0 ≤ a) (h1 : a ≤ 1000000) : Dif l' n := by
  induction k generalizing l a with
  | zero => simp only [shufT, Option.some.injEq, Prod.mk.injEq] at h; rw [← h.1]; exact hd
  | succ k ih =>
    cases hb : belowM s (((k + 2 : Nat)) : Int) a with
    | none => rw [shufT_none hb] at h; cases h
    | some r =>
      obtain ⟨i, b⟩ := r
      rw [shufT_some hb] at h
      have hbd := belowM_bd hb h0 h1
      exact ih (hd.swap (by omega) (by omega)) (by omega) h (by omega) (by omega)
theorem shuf_law {s a n a' : Int} {l : List Int} (h : shufR s a n = some (l, a')) : Dif l l.length ∧ (l.length : Int) = n := by
  unfold shufR at h
  split at h
  · rename_i hc
    have ha := streamB_of hc.1
    have hn := inR_of hc.2
    have hd := shufT_dif (n := n.toNat) (Dif.iota _) (by omega) h ha.1 ha.2
    have := hd.1
    exact ⟨by rw [this]; exact hd, by omega⟩
  · cases h
/-- The marks of the numbers seen. -/
def Seen (l : List Int) (bs : List Bool) (t : Nat) : Prop := bs.length = l.length ∧ ∀ x : Nat, bs[x]?.getD false = true → ∃ j, j < t ∧ l[j]?.getD 0 = x
theorem Seen.start (l : List Int) : Seen l (List.replicate l.length false) 0 := by
  refine ⟨by simp, fun x hx => ?_⟩
  rcases Nat.lt_or_ge x l.length with h | h
  · rw [List.getElem?_replicate, if_pos h] at hx; cases hx
  · rw [List.getElem?_eq_none (by simpa using h)] at hx; cases hx
theorem Seen.free {l : List Int} {bs : List Bool} {t x : Nat} (h : Seen l bs t) (hd : Dif l l.length) (ht : t < l.length) (hx : l[t]?.getD 0 = x) : bs[x]?.getD false = false := by
  cases hb : bs[x]?.getD false
  · rfl
  · obtain ⟨j, hj, e⟩ := h.2 x hb
    have := hd.2.2 j t (by omega) ht (by rw [e, hx])
    omega
theorem Seen.step {l : List Int} {bs : List Bool} {t x : Nat} (h : Seen l bs t) (hx : l[t]?.getD 0 = x) : Seen l (bs.set x true) (t + 1) := by
  refine ⟨by simpa using h.1, fun y hy => ?_⟩
  by_cases e : x = y
  · subst e; exact ⟨t, by omega, hx⟩
  · rw [List.getElem?_set_ne e] at hy
    obtain ⟨j, hj, e2⟩ := h.2 y hy
    exact ⟨j, by omega, e2⟩
end Go.Proofs.Ytfkdmddfadkjoaa
