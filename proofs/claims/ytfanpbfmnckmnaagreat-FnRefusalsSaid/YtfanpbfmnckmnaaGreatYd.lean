/- Several small texts in one: Tab, TabN, TabK, TabG, TabP, TabQ. -/
import Derived.Test.YtfanpbfmnckmnaaGreatClass
import Derived.Test.YtfanpbfmnckmnaaGreatZr
import Derived.Test.YtfanpbfmnckmnaaGreatYa
import Derived.Deep.AppendLies
namespace Go.Proofs.YtfanpbfmnckmnaaGreat

section
open Go.RowKit

def nzV (c : Nat) (v : Int) : Bool := decide (-5 ≤ v ∧ v ≤ 5 ∧ -(c : Int) ≤ v ∧ (c = 0 → v = 0))
def nzRow (c : Nat) (xs : List Int) : Bool := decide (xs.length = 16) && allTo (fun k => nzV c (xs[k]?.getD 0)) xs.length
def nzTab (n : Nat) (S : Nat → List Int) : Bool := decide (1 ≤ n ∧ n ≤ 20) && allTo (fun c => nzRow c (S c)) n
section
variable {n c k : Nat} {S : Nat → List Int} {xs : List Int}
theorem nzTab_n (h : ¬ (1 ≤ n ∧ n ≤ 20)) : nzTab n S = false := by unfold nzTab; simp [h]
theorem nzTab_row (hc : c < n) (h : nzRow c (S c) = false) : nzTab n S = false := by unfold nzTab; rw [allTo_no hc h]; simp
theorem nzTab_yes (h0 : 1 ≤ n ∧ n ≤ 20) (h : allTo (fun c => nzRow c (S c)) n = true) : nzTab n S = true := by unfold nzTab; rw [h]; simp [h0]
theorem nzRow_len (h : ¬ xs.length = 16) : nzRow c xs = false := by unfold nzRow; simp [h]
theorem nzRow_no (hk : k < xs.length) (h : nzV c (xs[k]?.getD 0) = false) : nzRow c xs = false := by unfold nzRow; rw [allTo_no (p := fun k => nzV c (xs[k]?.getD 0)) hk h]; simp
theorem nzRow_yes (h0 : xs.length = 16) (h : allTo (fun k => nzV c (xs[k]?.getD 0)) 16 = true) : nzRow c xs = true := by unfold nzRow; rw [h0, h]; rfl
theorem nzTab_of (h : nzTab n S = true) : (1 ≤ n ∧ n ≤ 20) ∧ ∀ c, c < n → (S c).length = 16 ∧ ∀ k, k < 16 → nzV c ((S c)[k]?.getD 0) = true := by
  unfold nzTab at h
  rw [Bool.and_eq_true] at h
  refine ⟨of_decide_eq_true h.1, fun c hc => ?_⟩
  have h2 := allTo_of h.2 c hc
  simp only [nzRow, Bool.and_eq_true, decide_eq_true_eq] at h2
  refine ⟨h2.1, fun k hk => ?_⟩
  exact allTo_of h2.2 k (by omega)
theorem nzV_of {v : Int} (h : nzV c v = true) : -5 ≤ v ∧ v ≤ 5 ∧ -(c : Int) ≤ v := by
  have := of_decide_eq_true h
  exact ⟨this.1, this.2.1, this.2.2.1⟩
end
end

section
open Go.RowKit

/-- The element for a count and a key. -/
def nzAt (n : Nat) (S : Nat → List Int) (x y : Nat) : Int := (S (min x (n - 1)))[y / 4096]?.getD 0
end

section
open Go.RowKit

theorem allR_all {xs : List Int} {lo hi : Int} (h : ∀ k, k < xs.length → inR (xs[k]?.getD 0) lo hi = true) : allR xs lo hi = true := by
  simp only [allR, List.all_eq_true]
  intro x hx
  obtain ⟨k, hk, rfl⟩ := List.mem_iff_getElem.1 hx
  have := h k hk
  rw [List.getElem?_eq_getElem hk] at this
  exact this
end

section
open Go.RowKit

section
variable {c : Nat} {xs : List Int}
theorem nzRow_of (h : nzRow c xs = true) : xs.length = 16 ∧ ∀ k, k < xs.length → nzV c (xs[k]?.getD 0) = true := by
  simp only [nzRow, Bool.and_eq_true, decide_eq_true_eq] at h
  exact ⟨h.1, allTo_of h.2⟩
theorem nzV_zero {v : Int} (h : nzV 0 v = true) : v = 0 := (of_decide_eq_true h).2.2.2 rfl
theorem nzRow_g1 (h : allR xs (maxI (-(c : Int)) (-5)) 5 = false) : nzRow c xs = false := by
  cases hr : nzRow c xs
  · rfl
  · obtain ⟨_, h2⟩ := nzRow_of hr
    rw [allR_all fun k hk => inR_yes (by have := nzV_of (h2 k hk); unfold maxI; split <;> omega) (nzV_of (h2 k hk)).2.1] at h
    cases h
theorem nzRow_g2 (h : allR xs 0 0 = false) : nzRow 0 xs = false := by
  cases hr : nzRow 0 xs
  · rfl
  · obtain ⟨_, h2⟩ := nzRow_of hr
    rw [allR_all fun k hk => inR_yes (by have := nzV_zero (h2 k hk); omega) (by have := nzV_zero (h2 k hk); omega)] at h
    cases h
theorem nzRow_gy (h0 : xs.length = 16) (h : allR xs (maxI (-(c : Int)) (-5)) 5 = true) (hz : c = 0 → allR xs 0 0 = true) : nzRow c xs = true := by
  refine nzRow_yes h0 (allTo_yes fun k hk => ?_)
  have h1 := allR_of h k (by omega)
  have h2 : c = 0 → xs[k]?.getD 0 = 0 := fun e => by have := allR_of (hz e) k (by omega); omega
  have h3 : -5 ≤ xs[k]?.getD 0 ∧ -(c : Int) ≤ xs[k]?.getD 0 := by
    have := h1.1
    unfold maxI at this
    split at this <;> omega
  simp only [nzV, decide_eq_true_eq]
  exact ⟨h3.1, h1.2, h3.2, h2⟩
end
end

section
open Go.RowKit

def nzP (n : Nat) (S : Nat → List Int) (cs ks : List Int) (i : Nat) : Int := cs[i]?.getD 0 + nzAt n S (cs[i]?.getD 0).toNat (ks[i]?.getD 0).toNat
def nzG (n : Nat) (S : Nat → List Int) (cs ks : List Int) (j : Nat) : Nat → Int := fun t => if t < j then nzP n S cs ks t else 0
theorem nzG_next {n m j : Nat} {S : Nat → List Int} {cs ks : List Int} : (tabl m (nzG n S cs ks j)).set j (nzP n S cs ks j) = tabl m (nzG n S cs ks (j + 1)) := by
  rw [tabl_set]
  refine tabl_congr fun t _ => ?_
  unfold nzG
  by_cases h1 : t = j
  · subst h1; rw [if_pos rfl, if_pos (by omega)]
  · rw [if_neg h1]
    by_cases h2 : t < j
    · rw [if_pos h2, if_pos (by omega)]
    · rw [if_neg h2, if_neg (by omega)]
theorem nzAt_bd {n x y : Nat} {S : Nat → List Int} (h : nzTab n S = true) (hy : y < 65536) : -5 ≤ nzAt n S x y ∧ nzAt n S x y ≤ 5 := by
  obtain ⟨h1, h2⟩ := nzTab_of h
  have h3 := (h2 (min x (n - 1)) (by omega)).2 (y / 4096) (by omega)
  have := nzV_of h3
  unfold nzAt
  omega
end

section
open Go.RowKit

/-- 'append(s, v)' of one int at a step of a region that draws its order. -/
theorem step_app1 {wr : World} {v : Int} {ops : Array Oper} {o : Oper} {a : Act} {K : Act → World → Prop} {Q : Exit → Act → World → Prop} {E : Prop} (hgd : o.guard = none) (s x : Operand)
    (ho : o.op = .call { callee := .builtin .append, args := #[s, x], argTypes := #[22, 22] })
    (B : Nat) (A : Option Addr) (n c : Nat) (xs : List Int) (hs : a.eval s = .slice A n c) (hown : Own wr B A n c xs)
    (g : Nat) (hx : a.eval x = .slice (some ⟨g, 0, none⟩) 1 1) (hg : g = wr.heap.size) (hsz : n + 1 ≤ 1099511627776) (hB : B ≤ wr.heap.size)
    (h : ∀ A2 c2 w', Own w' B A2 (n + 1) c2 (xs ++ [v]) → wr.grownBy w' (rowOf A) → (rowOf A2 = rowOf A ∨ rowOf A2 = some (wr.heap.size + 1)) → K (a.put o.dst (.slice A2 (n + 1) c2)) w') :
    if Region.wanted o (yielded ops a.tmps) = true then Oper.wp Tryz.prog o a (wr.alloc (.cells #[.int .i64 v] 3)) K Q else E := by
  obtain ⟨i0, hi, hz0, hz1, hz2⟩ := info_parts Tryz.infoInt
  have hw : Region.wanted o (yielded ops a.tmps) = true := by simp [Region.wanted, hgd]
  rw [if_pos hw]
  subst hg
  have hownA : Own (wr.alloc (.cells #[.int .i64 v] 3)) B A n c xs := hown.below ((Below.refl _ _).alloc (Nat.le_refl _) _)
  refine wp_append_lies (P := Tryz.prog) _ s x 22 ho B 3 i0 _ 1 8 Tryz.underlying22 hi hz0 hz1 hz2 rfl (by omega) (.slice A n c) n (xs.map (Value.int .i64)) hs hownA ⟨wr.heap.size, 0, none⟩ 1 1 [.int .i64 v] hx rfl (World.news_of_block (cs := #[.int .i64 v]) (t := 3) (fr := (0, 0)) (heap_alloc_new wr _)) (by simp [Value.oneCell']) (by omega) (by unfold maxLen; omega) (by omega) (by simp; omega) (wr.heap.size + 1) (by simp) ?_
  intro g2 cap w' h1 h2 h3 _
  rw [ownBlock_row] at h2 h3
  refine h (some ⟨g2, 0, none⟩) cap w' (by simpa [Own] using h1) (grownBy_trans (World.grownBy_alloc wr _ _) h2) ?_
  rcases h3 with h3 | h3
  · exact .inl h3.symm
  · exact .inr (by rw [h3]; rfl)
end
end Go.Proofs.YtfanpbfmnckmnaaGreat
