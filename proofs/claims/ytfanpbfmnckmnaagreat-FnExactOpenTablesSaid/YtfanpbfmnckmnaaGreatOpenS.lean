/- What the law's own arguments read as: slices of variables, slices of records, a slice of slices. -/
import Derived.Test.YtfanpbfmnckmnaaGreatZc
import Derived.Deep.Slices
import Derived.Deep.Fields
import Derived.ChangeSame
import Derived.ChangeSlices
namespace Go.Proofs.YtfanpbfmnckmnaaGreat
open Go.RowKit Go.ChangeShapes Go.WideShapes Go.Deep

theorem list_of {α : Type} {Q : Nat → α → Prop} : ∀ n : Nat, (∀ i, i < n → ∃ p, Q i p) → ∃ l : List α, l.length = n ∧ ∀ i, i < n → ∃ p, l[i]? = some p ∧ Q i p
  | 0, _ => ⟨[], rfl, fun i hi => absurd hi (by omega)⟩
  | n + 1, h => by
    obtain ⟨l, hl, hq⟩ := list_of n (fun i hi => h i (by omega))
    obtain ⟨p, hp⟩ := h n (by omega)
    refine ⟨l ++ [p], by simp [hl], fun i hi => ?_⟩
    rcases Nat.lt_or_ge i n with h1 | h1
    · obtain ⟨q, e, hq'⟩ := hq i h1
      exact ⟨q, by rw [List.getElem?_append_left (by omega)]; exact e, hq'⟩
    · obtain rfl : i = n := by omega
      exact ⟨p, by rw [List.getElem?_append_right (by omega), hl, Nat.sub_self]; rfl, hp⟩

section
variable {H : Type} {enc : TypeId × Value → H} {P : Program} {w : World} {base : Nat} {held : Bool}
/-- One element's fields, each of one cell. -/
theorem field_cell {e : TypeId} {fs : Array Field} {n sz j : Nat} {f : Field} {ad : Addr} {cs : List Value} {x : DataW H × List MemPlace} (he : P.underlying e = some (.struct fs)) (hone : oneCellFields P fs = true) (hsz : sz = fs.size)
    (hc : w.cells? base ad sz = some cs) (h : DataW.trod enc P w base (fun _ => true) held n e cs = some x) (hj : fs[j]? = some f) :
    ∃ (v : Value) (n' : Nat) (y : DataW H × List MemPlace), w.cell? (ad.add j) = some v ∧ DataW.trod enc P w base (fun _ => true) held n' f.type [v] = some y := by
  obtain ⟨_, hl, hat⟩ := World.cells?_some hc
  obtain ⟨ys, n', _, _, _, hyl, hf⟩ := DataW.trod_struct he h
  obtain ⟨ho, hk⟩ := hone_of hone j f hj
  have hjl : j < fs.size := (Array.getElem?_eq_some_iff.1 hj).1
  have h1 := hf j f hj
  have hd : (cs.drop j).take 1 = [cs[j]'(by omega)] := by rw [List.drop_eq_getElem_cons (by omega), List.take_succ_cons, List.take_zero]
  rw [ho, hk, hd, List.getElem?_eq_getElem (by omega)] at h1
  exact ⟨_, n', _, (hat j (by omega)).trans (List.getElem?_eq_getElem (by omega)), h1⟩
end

section
variable {H : Type} {enc : TypeId × Value → H} {w : World} {base : Nat} {held : Bool}
theorem open_ints_any {fuel : Nat} {v : Value} {x : DataW H × List MemPlace} (h : DataW.trod enc Tryz.prog w base (fun _ => true) held fuel 22 [v] = some x) :
    ∃ (V : Option Addr) (m c : Nat) (zs : List Int), v = .slice V m c ∧ Ints w V m zs ∧ m ≤ maxLen ∧ ∀ y ∈ zs, (Lit.int .i64 y).wf = true := by
  rcases open_ints Tryz.underlying22 Tryz.underlying3 (by kernel_rfl) h with ⟨hcs, _⟩ | ⟨a, l, c, zs, hcs, _, hl, hm, hz, _, hcell, hwz⟩
  · injection hcs with hcs
    subst hcs
    exact ⟨none, 0, 0, [], rfl, Ints.nil_, by unfold maxLen; omega, fun x hx => by cases hx⟩
  · injection hcs with hcs
    subst hcs
    exact ⟨some a, l, c, zs.take l, rfl, Ints.of_row (by simp at hz; omega) hl hcell, by omega, fun x hx => hwz x (List.mem_of_mem_take hx)⟩

theorem open_vars {fuel n c : Nat} {ad : Option Addr} {x : DataW H × List MemPlace} (h : DataW.trod enc Tryz.prog w base (fun _ => true) held fuel 25 [.slice ad n c] = some x) :
    ∃ zs : List (ByteArray × Int), VarsR w ad n zs ∧ n ≤ maxLen ∧ ∀ j, j < n → (vN zs j).size ≤ maxLen := by
  have hC : (Tryz.prog).cellsOf 128 = 2 := by kernel_rfl
  rcases open_slice Tryz.underlying25 h with ⟨hcs, _⟩ | ⟨a0, len, cap, m, k, D, Pl, hcs, _, hl, hm, hmm, _, hi⟩
  · injection hcs with hcs
    injection hcs with e1 e2 e3
    subst e1 e2 e3
    exact ⟨[], VarsR.nil_, by unfold maxLen; omega, fun j hj => absurd hj (by omega)⟩
  · injection hcs with hcs
    injection hcs with e1 e2 e3
    subst e1 e2 e3
    rw [hC] at hi
    obtain ⟨zs, hzl, hz⟩ := list_of (α := ByteArray × Int) (Q := fun j p => w.cell? (a0.add (j * 2)) = some (.string p.1) ∧ w.cell? ⟨(a0.add (j * 2)).block, (a0.add (j * 2)).off + 1, none⟩ = some (.int .i64 p.2) ∧ p.1.size ≤ maxLen) n (fun j hj => by
      obtain ⟨cs, hcells, ht⟩ := hi j (by simp at hmm; omega)
      obtain ⟨v0, n0, y0, hv0, t0⟩ := field_cell (j := 0) Tryz.underlying128 (by kernel_rfl) (by kernel_rfl) hcells ht rfl
      obtain ⟨v1, n1, y1, hv1, t1⟩ := field_cell (j := 1) Tryz.underlying128 (by kernel_rfl) (by kernel_rfl) hcells ht rfl
      obtain ⟨s, e0, _, hs⟩ := DataW.trod_string Tryz.underlying9 t0
      obtain ⟨y, e1, _, _⟩ := DataW.trod_int Tryz.underlying3 t1
      injection e0 with e0
      injection e1 with e1
      subst e0 e1
      refine ⟨(s, y), ?_, ?_, hs⟩
      · have : (a0.add (j * 2)).add 0 = a0.add (j * 2) := by unfold Addr.add; simp
        rw [this] at hv0; exact hv0
      · have : (a0.add (j * 2)).add 1 = ⟨(a0.add (j * 2)).block, (a0.add (j * 2)).off + 1, none⟩ := rfl
        rw [this] at hv1; exact hv1)
    refine ⟨zs, ⟨hzl, fun _ => ⟨a0, rfl, fun j hj => ?_⟩⟩, by omega, fun j hj => ?_⟩
    · obtain ⟨p, e, h0, h1, _⟩ := hz j hj
      simp only [vN, vL, e, Option.getD_some]
      exact ⟨h0, h1⟩
    · obtain ⟨p, e, _, _, h2⟩ := hz j hj
      simp only [vN, e, Option.getD_some]
      exact h2

theorem open_recs {fuel n c : Nat} {ad : Option Addr} {x : DataW H × List MemPlace} (h : DataW.trod enc Tryz.prog w base (fun _ => true) held fuel 26 [.slice ad n c] = some x) :
    ∃ zs : List RecD, RecsR w ad n zs ∧ n ≤ maxLen ∧ ∀ j, j < n → (rV zs j).length ≤ maxLen := by
  have hC : (Tryz.prog).cellsOf 131 = 3 := by kernel_rfl
  rcases open_slice Tryz.underlying26 h with ⟨hcs, _⟩ | ⟨a0, len, cap, m, k, D, Pl, hcs, _, hl, hm, hmm, _, hi⟩
  · injection hcs with hcs
    injection hcs with e1 e2 e3
    subst e1 e2 e3
    exact ⟨[], RecsR.nil_, by unfold maxLen; omega, fun j hj => absurd hj (by omega)⟩
  · injection hcs with hcs
    injection hcs with e1 e2 e3
    subst e1 e2 e3
    rw [hC] at hi
    obtain ⟨zs, hzl, hz⟩ := list_of (α := RecD) (Q := fun j p => w.cell? (a0.add (j * 3)) = some (.int .i64 p.area) ∧ w.cell? ⟨(a0.add (j * 3)).block, (a0.add (j * 3)).off + 1, none⟩ = some (.int .i64 p.house) ∧ (∃ V m c, w.cell? ⟨(a0.add (j * 3)).block, (a0.add (j * 3)).off + 2, none⟩ = some (.slice V m c) ∧ Ints w V m p.vals) ∧ p.vals.length ≤ maxLen) n (fun j hj => by
      obtain ⟨cs, hcells, ht⟩ := hi j (by simp at hmm; omega)
      obtain ⟨v0, n0, y0, hv0, t0⟩ := field_cell (j := 0) Tryz.underlying131 (by kernel_rfl) (by kernel_rfl) hcells ht rfl
      obtain ⟨v1, n1, y1, hv1, t1⟩ := field_cell (j := 1) Tryz.underlying131 (by kernel_rfl) (by kernel_rfl) hcells ht rfl
      obtain ⟨v2, n2, y2, hv2, t2⟩ := field_cell (j := 2) Tryz.underlying131 (by kernel_rfl) (by kernel_rfl) hcells ht rfl
      obtain ⟨p, e0, _, _⟩ := DataW.trod_int Tryz.underlying3 t0
      obtain ⟨q, e1, _, _⟩ := DataW.trod_int Tryz.underlying3 t1
      obtain ⟨V, m', c', xs, e2, hV, hm', _⟩ := open_ints_any t2
      injection e0 with e0
      injection e1 with e1
      subst e0 e1 e2
      refine ⟨⟨p, q, xs⟩, ?_, ?_, ⟨V, m', c', ?_, hV⟩, by rw [hV.1]; exact hm'⟩
      · have : (a0.add (j * 3)).add 0 = a0.add (j * 3) := by unfold Addr.add; simp
        rw [this] at hv0; exact hv0
      · have : (a0.add (j * 3)).add 1 = ⟨(a0.add (j * 3)).block, (a0.add (j * 3)).off + 1, none⟩ := rfl
        rw [this] at hv1; exact hv1
      · have : (a0.add (j * 3)).add 2 = ⟨(a0.add (j * 3)).block, (a0.add (j * 3)).off + 2, none⟩ := rfl
        rw [this] at hv2; exact hv2)
    refine ⟨zs, ⟨hzl, fun _ => ⟨a0, rfl, fun j hj => ?_⟩⟩, by omega, fun j hj => ?_⟩
    · obtain ⟨p, e, h0, h1, h2, _⟩ := hz j hj
      simp only [rA, rH, rV, rX, e, Option.getD_some]
      exact ⟨h0, h1, h2⟩
    · obtain ⟨p, e, _, _, _, h3⟩ := hz j hj
      simp only [rV, rX, e, Option.getD_some]
      exact h3
end
end Go.Proofs.YtfanpbfmnckmnaaGreat
