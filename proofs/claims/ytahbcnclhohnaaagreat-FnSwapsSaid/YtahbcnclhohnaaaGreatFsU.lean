/- The plain law of swaps: what a plan's exchanges keep. -/
import Derived.Test.YtahbcnclhohnaaaGreatFsQ
import Derived.Test.YtahbcnclhohnaaaGreatFsH
import Derived.Test.YtahbcnclhohnaaaGreatFsJ
namespace Go.Proofs.YtahbcnclhohnaaaGreat
open Go.RowKit

theorem ptn_lt {R : List (List Int)} {m j i : Nat} (h : Apart R m j) (hi : i < m) : ptn R j i < m := by
  rcases ptn_cases (R := R) j i with ⟨t, ht, rfl | rfl⟩ | h1
  · rw [(ptn_in h t ht).1]; exact (h t ht).2.1
  · rw [(ptn_in h t ht).2]; exact (h t ht).1
  · rw [ptn_out h1]; exact hi
theorem Apart.le {R : List (List Int)} {m j i : Nat} (h : Apart R m j) (hi : i ≤ j) : Apart R m i := fun t ht => h t (by omega)
section
variable {vs : List (ByteArray × Int)} {rs : List RecD} {us : List Int} {P : List (List Int)}
theorem PlanOk.can (h : PlanOk vs rs us P) {t : Nat} (ht : t < P.length) : rA rs (pr1 P t) ≠ rA rs (pr2 P t) ∧ keyV vs (rV rs (pr1 P t)) us = keyV vs (rV rs (pr2 P t)) us := by
  obtain ⟨a, b, e, _, _, hc⟩ := h.row t ht
  have e2 := pr_row e
  rw [e2.1, e2.2]
  unfold canB at hc
  simpa using hc
theorem swK_rV (h : PlanOk vs rs us P) {j : Nat} (hj : j ≤ P.length) (i : Nat) : rV (swK rs P j) i = rV rs i := by
  show (rX (swK rs P j) i).vals = _
  rw [swK_at (h.ap.le hj)]
theorem swap_data (h : PlanOk vs rs us P) (hd : dataB vs rs = true) : dataB vs (swK rs P P.length) = true := by
  obtain ⟨h1, h2⟩ := dataB_of hd
  rw [dataB_eq (n := rs.length) (swK_len _ _ _) fun i hi => ?_]
  · exact decide_eq_true h1
  · have a1 := h2 i hi
    have a2 := h2 _ (ptn_lt h.ap hi)
    unfold recOk recB at a1 a2 ⊢
    simp only [Bool.and_eq_true] at a1 a2 ⊢
    rw [swK_rV h (Nat.le_refl _)]
    have e1 : rA (swK rs P P.length) i = rA rs (ptn P P.length i) := by
      show (rX _ i).area = _
      rw [swK_at h.ap]
    have e2 : rH (swK rs P P.length) i = rH rs (ptn P P.length i) := by
      show (rX _ i).house = _
      rw [swK_at h.ap]
    rw [e1, e2]
    exact ⟨a2.1, a2.2.1, a1.2.2⟩
theorem swap_keyed (h : PlanOk vs rs us P) (hd : keyedB vs rs us = true) : keyedB vs (swK rs P P.length) us = true := by
  unfold keyedB at hd ⊢
  simp only [Bool.and_eq_true] at hd ⊢
  exact ⟨hd.1, swap_data h hd.2.1, hd.2.2⟩
theorem swap_count (h : PlanOk vs rs us P) (kl : Lit) : ∀ j, j ≤ P.length → (swK rs P j).countP (fun r => decide (recH vs us r = kl)) = rs.countP (fun r => decide (recH vs us r = kl))
  | 0, _ => rfl
  | j + 1, hj => by
    rw [swK, ← swap_count h kl j (by omega)]
    obtain ⟨b1, b2, b3, _⟩ := h.ap j (by omega)
    have hk := (h.can (t := j) (by omega)).2
    have e1 := swK_rV h (j := j) (by omega) (pr1 P j)
    have e2 := swK_rV h (j := j) (by omega) (pr2 P j)
    refine countP_swD (by rw [swK_len]; exact b1) (by rw [swK_len]; exact b2) b3 ?_ ?_
    · have e : recH vs us ⟨rA (swK rs P j) (pr2 P j), rH (swK rs P j) (pr2 P j), rV (swK rs P j) (pr1 P j)⟩ = recH vs us (rX (swK rs P j) (pr2 P j)) := by
        show klH _ (keyV vs (rV (swK rs P j) (pr1 P j)) us) = klH _ (keyV vs (rV (swK rs P j) (pr2 P j)) us)
        rw [e1, e2, hk]; rfl
      rw [e]
    · have e : recH vs us ⟨rA (swK rs P j) (pr1 P j), rH (swK rs P j) (pr1 P j), rV (swK rs P j) (pr2 P j)⟩ = recH vs us (rX (swK rs P j) (pr1 P j)) := by
        show klH _ (keyV vs (rV (swK rs P j) (pr2 P j)) us) = klH _ (keyV vs (rV (swK rs P j) (pr1 P j)) us)
        rw [e1, e2, hk]; rfl
      rw [e]
theorem swap_cnt (h : PlanOk vs rs us P) (kl : Lit) {m : Nat} (hm : rs.length = m) : cntH vs us kl rs m = cntH vs us kl (swK rs P P.length) m := by
  unfold cntH
  rw [List.take_of_length_le (by omega), List.take_of_length_le (by rw [swK_len]; omega), swap_count h kl P.length (Nat.le_refl _)]
theorem swap_moved (h : PlanOk vs rs us P) {m : Nat} (hm : rs.length = m) : (movL rs (swK rs P P.length) m).length = 2 * P.length := by
  subst hm
  exact moved_len h.ap (fun t ht => (h.can ht).1)
theorem swap_le (h : PlanOk vs rs us P) {m : Nat} (hm : rs.length = m) {L : List Int} {s : Int} (hn : L.Nodup) (hin : ∀ k, k ∈ L ↔ ∃ i, i < m ∧ kyF vs rs us i = k) (hs : SumG (kyF vs rs us) (rA rs) m L L.length s) : (P.length : Int) ≤ s := by
  subst hm
  obtain ⟨⟨g, h1, rfl⟩, _⟩ := hs
  rw [List.take_length] at h1 ⊢
  exact plan_le (f := kyF vs rs us) (g := rA rs) h.ap (fun t ht => ⟨(h.can ht).2, (h.can ht).1⟩) hn (fun t ht => (hin _).2 ⟨pr1 P t, (h.ap t ht).1, rfl⟩) h1
theorem PlanOk.pairs (h : PlanOk vs rs us P) : pairsB P rs.length = true := by
  have := h.is
  unfold isPl at this
  rw [Bool.and_eq_true] at this
  exact this.1
end
end Go.Proofs.YtahbcnclhohnaaaGreat
