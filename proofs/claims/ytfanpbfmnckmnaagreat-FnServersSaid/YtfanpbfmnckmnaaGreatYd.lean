/- Several small texts in one: Tab, TabN, TabK, TabG, TabP, TabQ. -/
import Derived.Test.YtfanpbfmnckmnaaGreatClass
import Derived.Test.YtfanpbfmnckmnaaGreatZr
import Derived.Test.YtfanpbfmnckmnaaGreatYa
import Derived.Deep.AppendLies
namespace Go.Proofs.YtfanpbfmnckmnaaGreat

section
open Go.RowKit

section
variable {n c k : Nat} {S : Nat → List Int} {xs : List Int}
end
end

section
open Go.RowKit
end

section
open Go.RowKit
end

section
open Go.RowKit

section
variable {c : Nat} {xs : List Int}
end
end

section
open Go.RowKit
end

section
open Go.RowKit

/-- 'append(s, v)' of one int at a step of a region that draws its order. -/
theorem step_app1 {wr : World} {v : Int} {ops : Array Oper} {o : Oper} {a : Act} {K : Act → World → Prop} {Q : Exit → Act → World → Prop} {E : Prop} (hgd : o.guard = none) (s x : Operand)
    (ho : o.op = .call { callee := .builtin .append, args := #[s, x], argTypes := #[22, 22] })
    (B : Nat) (A : Option Addr) (n c : Nat) (xs : List Int) (hs : a.eval s = .slice A n c) (hown : Own wr B A n c xs)
    (g : Nat) (hx : a.eval x = .slice (some ⟨g, 0, none⟩) 1 1) (hg : g = wr.heap.size) (hsz : n + 1 ≤ 1099511627776) (hB : B ≤ wr.heap.size)
    (h : ∀ A2 c2 w', Own w' B A2 (n + 1) c2 (xs ++ [v]) → wr.grownBy w' (rowOf A) → (rowOf A2 = rowOf A ∨ rowOf A2 = some (wr.heap.size + 1)) → K (a.put o.dst (.slice A2 (n + 1) c2)) w') :
    if Region.wanted o (yielded ops a.tmps) = true then Oper.wp Tryz.prog o a (wr.alloc (.cells #[.int .i64 v] 3)) K Q else E := by
  obtain ⟨i0, hi, hz0, hz1, hz2⟩ := info_parts Tryz.infoInt
  have hw : Region.wanted o (yielded ops a.tmps) = true := by simp [Region.wanted, hgd]
  rw [if_pos hw]
  subst hg
  have hownA : Own (wr.alloc (.cells #[.int .i64 v] 3)) B A n c xs := hown.below ((Below.refl _ _).alloc (Nat.le_refl _) _)
  refine wp_append_lies (P := Tryz.prog) _ s x 22 ho B 3 i0 _ 1 8 Tryz.underlying22 hi hz0 hz1 hz2 rfl (by omega) (.slice A n c) n (xs.map (Value.int .i64)) hs hownA ⟨wr.heap.size, 0, none⟩ 1 1 [.int .i64 v] hx rfl (World.news_of_block (cs := #[.int .i64 v]) (t := 3) (fr := (0, 0)) (heap_alloc_new wr _)) (by simp [Value.oneCell']) (by omega) (by unfold maxLen; omega) (by omega) (by simp; omega) (wr.heap.size + 1) (by simp) ?_
  intro g2 cap w' h1 h2 h3 _
  rw [ownBlock_row] at h2 h3
  refine h (some ⟨g2, 0, none⟩) cap w' (by simpa [Own] using h1) (grownBy_trans (World.grownBy_alloc wr _ _) h2) ?_
  rcases h3 with h3 | h3
  · exact .inl h3.symm
  · exact .inr (by rw [h3]; rfl)
end
end Go.Proofs.YtfanpbfmnckmnaaGreat
