/- The plan's pairs: apart, valid, at most twenty; what both IsSwapPlan say. -/
import Derived.Test.YtahbcnclhohnaaaGreatIwP
import Derived.Test.YtahbcnclhohnaaaGreatFsP
import Derived.Test.YtahbcnclhohnaaaGreatZp
namespace Go.Proofs.YtahbcnclhohnaaaGreat
open Go.RowKit

section
variable {C : List (List Int)} {most : Int} {ord : List Int}
structure PkJ (C : List (List Int)) (most : Int) (s : SpS) (l : List Nat) : Prop where
  us : ∀ k, k ∈ l → spP C k 0 ∈ s.used ∧ spP C k 1 ∈ s.used
  ap : ∀ k q, k ∈ l → q ∈ l → k ≠ q → spP C k 0 ≠ spP C q 0 ∧ spP C k 0 ≠ spP C q 1 ∧ spP C k 1 ≠ spP C q 0 ∧ spP C k 1 ≠ spP C q 1
  bd : (s.n : Int) ≤ max most 0
theorem pj_inv (hb : ∀ i, i < C.length → 0 ≤ ord[i]?.getD 0 ∧ ord[i]?.getD 0 < (C.length : Int)) : ∀ j, j ≤ C.length → PkJ C most (spSt C most ord j) (pkL C most ord j) := by
  intro j
  induction j with
  | zero => exact fun _ => ⟨fun k h => by simp [pkL] at h, fun k q h => by simp [pkL] at h, by simp [spSt]; omega⟩
  | succ j ih =>
    intro hj
    have I := ih (by omega)
    obtain ⟨h0, h1⟩ := hb j (by omega)
    obtain ⟨k, hk⟩ := Int.eq_ofNat_of_zero_le h0
    cases h : spYes C most (spSt C most ord j) k
    · rw [pkL_no hk h, spSt, hk, Int.toNat_natCast, spStep_no h]
      exact I
    · rw [pkL_yes hk h, spSt, hk, Int.toNat_natCast, spStep_yes h]
      generalize spSt C most ord j = s at *
      generalize pkL C most ord j = l at *
      unfold spYes at h
      simp only [Bool.and_eq_true, decide_eq_true_eq, Bool.not_eq_true', hasB_dec, decide_eq_false_iff_not] at h
      obtain ⟨h2, h3, h4⟩ := h
      refine ⟨fun q hq => ?_, fun q r hq hr hne => ?_, ?_⟩
      · show spP C q 0 ∈ s.used ++ _ ∧ spP C q 1 ∈ s.used ++ _
        rcases List.mem_append.1 hq with hq | hq
        · exact ⟨List.mem_append_left _ (I.us q hq).1, List.mem_append_left _ (I.us q hq).2⟩
        · rw [List.mem_singleton] at hq
          subst hq
          exact ⟨List.mem_append_right _ (by simp), List.mem_append_right _ (by simp)⟩
      · have new : ∀ x, x ∈ l → spP C x 0 ≠ spP C k 0 ∧ spP C x 0 ≠ spP C k 1 ∧ spP C x 1 ≠ spP C k 0 ∧ spP C x 1 ≠ spP C k 1 := fun x hx => by
          obtain ⟨u0, u1⟩ := I.us x hx
          exact ⟨fun e => h3 (e ▸ u0), fun e => h4 (e ▸ u0), fun e => h3 (e ▸ u1), fun e => h4 (e ▸ u1)⟩
        rcases List.mem_append.1 hq with hq1 | hq1
        · rcases List.mem_append.1 hr with hr1 | hr1
          · exact I.ap q r hq1 hr1 hne
          · rw [List.mem_singleton] at hr1
            rw [hr1]
            exact new q hq1
        · rw [List.mem_singleton] at hq1
          rw [hq1]
          rcases List.mem_append.1 hr with hr1 | hr1
          · obtain ⟨a1, a2, a3, a4⟩ := new r hr1
            exact ⟨fun e => a1 e.symm, fun e => a3 e.symm, fun e => a2 e.symm, fun e => a4 e.symm⟩
          · rw [List.mem_singleton] at hr1
            exact absurd (hq1.trans hr1.symm) hne
      · show ((s.n + 1 : Nat) : Int) ≤ _
        omega
end
theorem candR_can {vs : List (ByteArray × Int)} {us : List Int} {rs : List RecD} {j t : Nat} {r : List Int} (h : r ∈ candR vs us rs j t) : ∃ k : Nat, r = [(j : Int), (k : Int)] ∧ j < k ∧ k < j + 1 + t ∧ canB vs us rs j k = true := by
  unfold candR at h
  obtain ⟨x, hx, rfl⟩ := List.mem_map.1 h
  rw [List.mem_filter, List.mem_range] at hx
  exact ⟨j + 1 + x, rfl, by omega, by omega, hx.2⟩
theorem candT_can {vs : List (ByteArray × Int)} {us : List Int} {rs : List RecD} {m : Nat} {r : List Int} : ∀ j, j ≤ m → r ∈ candT vs us rs m j → ∃ i k : Nat, r = [(i : Int), (k : Int)] ∧ i < k ∧ k < m ∧ canB vs us rs i k = true
  | 0, _, h => by simp [candT] at h
  | j + 1, hj, h => by
    rw [candT, List.mem_append] at h
    rcases h with h | h
    · exact candT_can j (by omega) h
    · obtain ⟨k, e, h1, h2, h3⟩ := candR_can h
      exact ⟨j, k, e, h1, by omega, h3⟩
/-- A plan's rows. -/
structure PlanOk (vs : List (ByteArray × Int)) (rs : List RecD) (us : List Int) (P : List (List Int)) : Prop where
  len : P.length ≤ 20
  row : ∀ t, t < P.length → ∃ a b : Nat, P[t]?.getD [] = [(a : Int), (b : Int)] ∧ a < b ∧ b < rs.length ∧ canB vs us rs a b = true
  ap : Apart P rs.length P.length
theorem pr_row {P : List (List Int)} {t a b : Nat} (h : P[t]?.getD [] = [(a : Int), (b : Int)]) : pr1 P t = a ∧ pr2 P t = b := by
  unfold pr1 pr2
  rw [h]
  exact ⟨by simp, by simp⟩
theorem planV_ok {vs : List (ByteArray × Int)} {rs : List RecD} {us : List Int} {most sd : Int} {P : List (List Int)} (h : planV vs rs us most sd = some P) : PlanOk vs rs us P ∧ keyedB vs rs us = true := by
  unfold planV at h
  split at h
  · rename_i h0
    obtain ⟨h1, h2⟩ := h0
    unfold planOk at h1
    simp only [Bool.and_eq_true] at h1
    obtain ⟨hk, hm, _⟩ := h1
    have hm := inR_of hm
    refine ⟨?_, hk⟩
    cases hM : shufT sd ((planC vs rs us).length - 1) (iota (planC vs rs us).length) 0 with
    | none => rw [hM] at h; cases h
    | some p =>
      rw [hM] at h
      simp only [Option.map_some, Option.some.injEq] at h
      have hio := iota_bd (planC vs rs us).length
      obtain ⟨r, b⟩ := p
      have hsh := shufT_mem _ _ _ r b (planC vs rs us).length hM hio.1 hio.2 (by omega) (by omega) (by omega)
      have hcan : ∀ x, x ∈ planC vs rs us → _ := fun x hx => candT_can (vs := vs) (us := us) (rs := rs) (m := rs.length) (r := x) rs.length (Nat.le_refl _) hx
      simp only at h
      generalize planC vs rs us = C at *
      have I := pk_inv (C := C) (most := most) hsh.2 C.length (Nat.le_refl _)
      have J := pj_inv (C := C) (most := most) hsh.2 C.length (Nat.le_refl _)
      generalize pkL C most r C.length = l at *
      generalize spSt C most r C.length = s at *
      have hin : ∀ k, k ∈ spK s.ch C.length → k ∈ l := fun k hk => by
        unfold spK at hk
        rw [List.mem_filter] at hk
        exact (I.mem k).1 hk.2
      have hlen : (spK s.ch C.length).length = l.length := by
        rw [← count_in C.length l I.nd I.lt]
        unfold spK
        rw [← List.countP_eq_length_filter]
        refine List.countP_congr fun x _ => ?_
        have := I.mem x
        constructor
        · intro h; simpa using this.1 h
        · intro h; exact this.2 (by simpa using h)
      have hpl : P.length = l.length := by rw [← h, spR_len, hlen]
      have hnd : (spK s.ch C.length).Nodup := List.nodup_range.sublist List.filter_sublist
      have hrow : ∀ t, t < P.length → ∃ k, k ∈ l ∧ k < C.length ∧ (spK s.ch C.length)[t]? = some k ∧ P[t]?.getD [] = C[k]?.getD [] := fun t ht => by
        rw [← h, spR_len] at ht
        refine ⟨(spK s.ch C.length)[t], hin _ (List.getElem_mem ht), I.lt _ (hin _ (List.getElem_mem ht)), List.getElem?_eq_getElem ht, ?_⟩
        rw [← h, spR_at ht, List.getElem?_eq_getElem ht]; rfl
      have hC : ∀ k, k < C.length → ∃ a b : Nat, C[k]?.getD [] = [(a : Int), (b : Int)] ∧ a < b ∧ b < rs.length ∧ canB vs us rs a b = true := fun k hk => by
        rw [List.getElem?_eq_getElem hk]
        obtain ⟨a, b, e, h3⟩ := hcan _ (List.getElem_mem hk)
        exact ⟨a, b, e, h3⟩
      have hsp : ∀ t k, P[t]?.getD [] = C[k]?.getD [] → k < C.length → (pr1 P t : Int) = spP C k 0 ∧ (pr2 P t : Int) = spP C k 1 := fun t k e hk => by
        obtain ⟨a, b, e2, _⟩ := hC k hk
        have e3 := pr_row (e.trans e2)
        unfold spP
        rw [e2, e3.1, e3.2]
        exact ⟨by simp, by simp⟩
      refine ⟨?_, fun t ht => ?_, fun t ht => ?_⟩
      · have h8 := I.len; have h9 := J.bd; omega
      · obtain ⟨k, h3, h4, h5, h6⟩ := hrow t ht
        obtain ⟨a, b, e, h7⟩ := hC k h4
        exact ⟨a, b, h6.trans e, h7⟩
      · obtain ⟨k, h3, h4, h5, h6⟩ := hrow t ht
        obtain ⟨a, b, e, h7, h8, _⟩ := hC k h4
        have e3 := pr_row (h6.trans e)
        refine ⟨by omega, by omega, by omega, fun q hq => ?_⟩
        obtain ⟨k2, g3, g4, g5, g6⟩ := hrow q (by omega)
        have hne : k2 ≠ k := fun e => by
          subst e
          have := (List.getElem?_inj (by rw [hlen, ← hpl]; omega) hnd).1 (g5.trans h5.symm)
          omega
        obtain ⟨a1, a2, a3, a4⟩ := J.ap k2 k g3 h3 hne
        have s1 := hsp t k h6 h4
        have s2 := hsp q k2 g6 g4
        have b1 : (pr1 P q : Int) ≠ pr1 P t := by rw [s2.1, s1.1]; exact a1
        have b2 : (pr1 P q : Int) ≠ pr2 P t := by rw [s2.1, s1.2]; exact a2
        have b3 : (pr2 P q : Int) ≠ pr1 P t := by rw [s2.2, s1.1]; exact a3
        have b4 : (pr2 P q : Int) ≠ pr2 P t := by rw [s2.2, s1.2]; exact a4
        refine ⟨?_, ?_, ?_, ?_⟩ <;> omega
  · cases h
/-- The indices of the first j rows. -/
def flI (R : List (List Int)) : Nat → List Int
  | 0 => []
  | j + 1 => flI R j ++ (R[j]?.getD [])
def rowP (vs : List (ByteArray × Int)) (rs : List RecD) (us : List Int) (R : List (List Int)) (j : Nat) : Bool := canB vs us rs (pr1 R j) (pr2 R j) && (!hasB (flI R j) (pr1 R j) && !hasB (flI R j) (pr2 R j))
/-- What IsSwapPlan says of valid data. -/
def isPl (vs : List (ByteArray × Int)) (rs : List RecD) (us : List Int) (R : List (List Int)) : Bool := pairsB R rs.length && allTo (rowP vs rs us R) R.length
theorem flI_mem {R : List (List Int)} {x : Int} : ∀ {j : Nat}, (∀ t, t < j → ∃ a b : Nat, R[t]?.getD [] = [(a : Int), (b : Int)]) → (x ∈ flI R j ↔ ∃ t, t < j ∧ (x = (pr1 R t : Int) ∨ x = (pr2 R t : Int)))
  | 0, _ => by simp [flI]
  | j + 1, h => by
    obtain ⟨a, b, e⟩ := h j (by omega)
    have e2 := pr_row e
    rw [flI, List.mem_append, flI_mem (fun t ht => h t (by omega)), e]
    simp only [List.mem_cons, List.not_mem_nil, or_false]
    constructor
    · rintro (⟨t, h1, h2⟩ | h)
      · exact ⟨t, by omega, h2⟩
      · exact ⟨j, by omega, by rw [e2.1, e2.2]; exact h⟩
    · rintro ⟨t, h1, h2⟩
      rcases Nat.lt_or_ge t j with h3 | h3
      · exact .inl ⟨t, h3, h2⟩
      · obtain rfl : t = j := by omega
        rw [e2.1, e2.2] at h2
        exact .inr h2
theorem PlanOk.is {vs : List (ByteArray × Int)} {rs : List RecD} {us : List Int} {P : List (List Int)} (h : PlanOk vs rs us P) : isPl vs rs us P = true := by
  have h1 : pairsB P rs.length = true := by
    rw [pairsB_end fun k hk => ?_]
    · exact decide_eq_true h.len
    · obtain ⟨a, b, e, h2, h3, _⟩ := h.row k hk
      rw [e]
      unfold pairB
      simp only [List.length_cons, List.length_nil, decide_true, Bool.true_and]
      rw [inR_yes (by simp) (by simp; omega), inR_yes (by simp; omega) (by simp; omega)]; rfl
  unfold isPl
  rw [h1, Bool.true_and]
  refine allTo_yes fun t ht => ?_
  obtain ⟨a, b, e, h2, h3, h4⟩ := h.row t ht
  have e2 := pr_row e
  have hr : ∀ s, s < t → ∃ a b : Nat, P[s]?.getD [] = [(a : Int), (b : Int)] := fun s hs => by
    obtain ⟨a, b, e, _⟩ := h.row s (by omega)
    exact ⟨a, b, e⟩
  have ha := (h.ap t ht).2.2.2
  unfold rowP
  rw [e2.1, e2.2, h4, hasB_dec, hasB_dec, decide_eq_false, decide_eq_false]
  · rfl
  · intro hm
    obtain ⟨s, hs, h5⟩ := (flI_mem hr).1 hm
    have := ha s hs
    rcases h5 with h5 | h5 <;> omega
  · intro hm
    obtain ⟨s, hs, h5⟩ := (flI_mem hr).1 hm
    have := ha s hs
    rcases h5 with h5 | h5 <;> omega
end Go.Proofs.YtahbcnclhohnaaaGreat
