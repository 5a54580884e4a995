/- Regions that draw their order and end in one operation that waits for all the others: loads are taken first, and the condition on the world need not hold behind the last one. -/
import Derived.Test.YtcjmapdeopffcaaHg
import Derived.Deep.RegionHeld3
namespace Go.Proofs.Ytcjmapdeopffcaa
open Go.RowKit
set_option linter.unusedVariables false

section
variable {P : Program} {ops : Array Oper} {Q : Exit → Act → World → Prop} {md : Region.Mode} {S : World → Prop} {L : Nat}

/-- Whatever comes up next, S holds behind it, but behind number L. -/
def AnyE (P : Program) (md : Region.Mode) (ops : Array Oper) (Q : Exit → Act → World → Prop) (S : World → Prop) (L : Nat) : Nat → Array Bool → Act → World → Prop
  | 0, ls, a, w => Region.ready md ops ls = [] ∧ Q .normal a w
  | k + 1, ls, a, w => (Region.ready md ops ls = [] → Q .normal a w) ∧ ∀ i ∈ Region.ready md ops ls, wpOp P ops Q i (fun a' w' => (i ≠ L → S w') ∧ AnyE P md ops Q S L k (ls.setIfInBounds i true) a' w') a w
theorem AnyE.any : ∀ (k : Nat) (ls : Array Bool) (a : Act) (w : World), AnyE P md ops Q S L k ls a w → wpAny P md ops Q k ls a w
  | 0, _, _, _, h => h
  | k + 1, _, _, _, h => ⟨h.1, fun i hi => wpOp_mono (fun a' w' h' => AnyE.any k _ a' w' h'.2) (h.2 i hi)⟩
/-- Number L waits for number i. -/
def waits (md : Region.Mode) (ops : Array Oper) (L i : Nat) : Bool := match ops[L]? with
  | none => false
  | some o => o.after.any fun e => Region.binds md e && (e.on == i)
theorem waits_no {i : Nat} {ls : Array Bool} (hw : waits md ops L i = true) (hi : i ∈ Region.ready md ops ls) : L ∉ Region.ready md ops ls := fun hL => by
  obtain ⟨_, o, ho, hall⟩ := mem_ready.1 hL
  unfold waits at hw
  rw [ho] at hw
  obtain ⟨e, he, h2⟩ := Array.any_eq_true'.1 hw
  simp only [Bool.and_eq_true, beq_iff_eq] at h2
  have h1 := hall e he h2.1
  have h0 := (mem_ready.1 hi).1
  rw [h2.2] at h1
  rcases Nat.lt_or_ge i ls.size with h' | h'
  · simp [h'] at h0 h1; rw [h0] at h1; cases h1
  · simp [Array.getElem?_eq_none h'] at h1
/-- A number that yields in every world that meets S is taken first. -/
theorem AnyE.first {i : Nat} {oi : Oper} {v : Value} (hi : ops[i]? = some oi) (hsel : ∀ (j : Nat) (o : Oper) cs b, ops[j]? = some o → o.op ≠ .select cs b) (hQ : ∀ c a w, Q (.panic c) (a.put oi.dst v) w → Q (.panic c) a w) (hw : waits md ops L i = true) :
    ∀ (k : Nat) (ls : Array Bool) (a : Act) (w : World), (∀ j oj, ops[j]? = some oj → j ≠ i → ls.getD j true = false → (∀ e ∈ oj.after, Region.binds md e = true → e.on ≠ i) → oi.apart ops oj = true) → i ∈ Region.ready md ops ls → YieldsIf P ops S oi v a → S w →
      AnyE P md ops Q S L k (ls.setIfInBounds i true) (a.put oi.dst v) w → AnyE P md ops Q S L (k + 1) ls a w := by
  intro k
  induction k with
  | zero =>
    intro ls a w _ hr hy hS H
    refine ⟨fun h => absurd hr (by rw [h]; exact List.not_mem_nil), fun j hj => ?_⟩
    by_cases e : j = i
    · rw [e]; exact hy.wpOp hi hS ⟨fun _ => hS, H⟩
    · have h0 := ready_mono hj e
      rw [H.1] at h0
      exact absurd h0 List.not_mem_nil
  | succ k ih =>
    intro ls a w hfree hr hy hS H
    refine ⟨fun h => absurd hr (by rw [h]; exact List.not_mem_nil), fun j hj => ?_⟩
    by_cases e : j = i
    · rw [e]; exact hy.wpOp hi hS ⟨fun _ => hS, H⟩
    · have hjL : j ≠ L := fun h => waits_no hw hr (h ▸ hj)
      obtain ⟨hun, oj, hoj, hall⟩ := mem_ready.1 hj
      have hnot : ∀ x ∈ oj.after, Region.binds md x = true → x.on ≠ i := fun x hx hb h => by
        have h1 := hall x hx hb
        have h0 := (mem_ready.1 hr).1
        rw [h] at h1
        rcases Nat.lt_or_ge i ls.size with h' | h'
        · simp [h'] at h0 h1; rw [h0] at h1; cases h1
        · simp [Array.getElem?_eq_none h'] at h1
      have h2 := wpOp_putIf hoj (hfree j oj hoj e hun hnot) (fun cs b => hsel i oi cs b hi) (fun cs b => hsel j oj cs b hoj) hQ hy (H.2 j (ready_mono hj e))
      refine wpOp_mono (fun a' w' h3 => ⟨fun _ => h3.2.1 hjL, ih _ a' w' (fun z oz hz hzi hzu hzn => ?_) (ready_mono hr (Ne.symm e)) h3.1 (h3.2.1 hjL) ?_⟩) h2
      · refine hfree z oz hz hzi ?_ hzn
        by_cases ez : j = z
        · rw [← ez]; exact hun
        · rw [getD_set_ne true ez] at hzu; exact hzu
      · rw [Array.setIfInBounds_comm _ _ e]
        exact h3.2.2
theorem AnyE.take {i d : Nat} {oi : Oper} {v : Value} {k : Nat} {ls : Array Bool} {a : Act} {w : World} (hi : ops[i]? = some oi) (hd : oi.dst = some d) (hs : Region.noSelect ops = true) (hf : Region.free md ops ls i = true) (hr : (Region.ready md ops ls).contains i = true) (hw : waits md ops L i = true)
    (hQ : ∀ c a w, Q (.panic c) (a.put (some d) v) w → Q (.panic c) a w) (hy : YieldsIf P ops S oi v a) (hS : S w) (h : AnyE P md ops Q S L k (ls.setIfInBounds i true) (a.put (some d) v) w) : AnyE P md ops Q S L (k + 1) ls a w :=
  AnyE.first hi (Region.noSelect_spec hs) (by rw [hd]; exact hQ) hw k ls a w (Region.free_spec hi hf) (by simpa using hr) hy hS (by rw [hd]; exact h)
/-- The one that may come up, not the last one. -/
theorem AnyE.step {i : Nat} {o : Oper} {k : Nat} {ls : Array Bool} {a : Act} {w : World} (hr : Region.ready md ops ls = [i]) (hiL : (i != L) = true) (ho : ops[i]? = some o)
    (h : ∀ K' : Act → World → Prop, Go.Shut (∀ a w, S w → (S w → AnyE P md ops Q S L k (ls.setIfInBounds i true) a w) → K' a w) → if Region.wanted o (yielded ops a.tmps) = true then Oper.wp P o a w K' Q else K' (a.put o.dst undef) w) : AnyE P md ops Q S L (k + 1) ls a w := by
  refine ⟨fun h0 => (by rw [hr] at h0; cases h0), fun j hj => ?_⟩
  rw [hr] at hj
  obtain rfl := List.mem_singleton.1 hj
  exact wpOp_step ho fun K' hK => h K' fun a w hS hW => hK a w ⟨fun _ => hS, hW hS⟩
/-- The last one. -/
theorem AnyE.last {i : Nat} {o : Oper} {k : Nat} {ls : Array Bool} {a : Act} {w : World} (hr : Region.ready md ops ls = [i]) (hiL : i = L) (ho : ops[i]? = some o) (hr2 : Region.ready md ops (ls.setIfInBounds i true) = [])
    (h : ∀ K' : Act → World → Prop, Go.Shut (∀ a w, Q .normal a w → K' a w) → if Region.wanted o (yielded ops a.tmps) = true then Oper.wp P o a w K' Q else K' (a.put o.dst undef) w) : AnyE P md ops Q S L (k + 1) ls a w := by
  refine ⟨fun h0 => (by rw [hr] at h0; cases h0), fun j hj => ?_⟩
  rw [hr] at hj
  obtain rfl := List.mem_singleton.1 hj
  refine wpOp_step ho fun K' hK => h K' fun a w hq => hK a w ⟨fun e => absurd hiL e, ?_⟩
  cases k with
  | zero => exact ⟨hr2, hq⟩
  | succ k => exact ⟨fun _ => hq, fun z hz => (by rw [hr2] at hz; cases hz)⟩
theorem AnyE.region {id : Nat} {a : Act} {w : World} (L : Nat) (S : World → Prop) (hm : P.follows .mixedOrders = true) (hS : S w.drew) (h : S w.drew → AnyE P .any ops Q S L ops.size (Array.replicate ops.size false) a w.drew) : (Code.region id ops true).wp P Q a w :=
  wp_region_any hm (AnyE.any _ _ _ _ (h hS))
end
end Go.Proofs.Ytcjmapdeopffcaa
