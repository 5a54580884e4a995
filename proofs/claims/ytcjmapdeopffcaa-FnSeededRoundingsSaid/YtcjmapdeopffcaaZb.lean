/- Several small texts in one: Vars, VarsT, VarsTo, VarsEq, RecT. -/
import Derived.Test.YtcjmapdeopffcaaZa
import Derived.Deep.RegionHeld3
namespace Go.Proofs.Ytcjmapdeopffcaa

section
open Go.RowKit

def vN (vs : List (ByteArray × Int)) (j : Nat) : ByteArray := (vs[j]?.getD (⟨#[]⟩, 0)).1
def vL (vs : List (ByteArray × Int)) (j : Nat) : Int := (vs[j]?.getD (⟨#[]⟩, 0)).2
/-- A slice of variables that reads as a list. -/
def VarsR (w : World) (A : Option Addr) (n : Nat) (vs : List (ByteArray × Int)) : Prop :=
  vs.length = n ∧ (0 < n → ∃ ad, A = some ad ∧ ∀ j, j < n → w.cell? (ad.add (j * 2)) = some (.string (vN vs j)) ∧ w.cell? ⟨(ad.add (j * 2)).block, (ad.add (j * 2)).off + 1, none⟩ = some (.int .i64 (vL vs j)))

section
variable {w w' : World} {A : Option Addr} {n : Nat} {vs : List (ByteArray × Int)}
theorem VarsR.at_ {k : Nat} (h : VarsR w A n vs) (hk : k < n) : ∃ ad, A = some ad ∧ w.cell? (ad.add (k * 2)) = some (.string (vN vs k)) ∧ w.cell? ⟨(ad.add (k * 2)).block, (ad.add (k * 2)).off + 1, none⟩ = some (.int .i64 (vL vs k)) := by
  obtain ⟨ad, e, hc⟩ := h.2 (by omega)
  exact ⟨ad, e, hc k hk⟩
theorem VarsR.nil_ : VarsR w A 0 [] := ⟨rfl, fun h => absurd h (by omega)⟩
theorem VarsR.below (h : VarsR w A n vs) (hb : Below w.heap.size w w') : VarsR w' A n vs :=
  ⟨h.1, fun hn => by
    obtain ⟨ad, e, hc⟩ := h.2 hn
    exact ⟨ad, e, fun j hj => ⟨(hb.cell (block_lt_of_cell (hc j hj).1)).trans (hc j hj).1, (hb.cell (block_lt_of_cell (hc j hj).2)).trans (hc j hj).2⟩⟩⟩
theorem VarsR.drewN (h : VarsR w A n vs) (q : Nat) : VarsR (w.drewN q) A n vs := h
end

/-- What is left of a room behind a name. -/
def szv (s : ByteArray) (k : Int) : Int := if k - s.size < 0 then -1 else k - s.size
end

section
open Go.RowKit

/-- The cells of a list of variables. -/
def vcells : List (ByteArray × Int) → List Value
  | [] => []
  | p :: vs => .string p.1 :: .int .i64 p.2 :: vcells vs
theorem vcells_len (vs : List (ByteArray × Int)) : (vcells vs).length = vs.length * 2 := by
  induction vs with
  | nil => rfl
  | cons p vs ih => simp only [vcells, List.length_cons, ih]; omega
theorem vcells_at (vs : List (ByteArray × Int)) : ∀ k, k < vs.length → (vcells vs)[k * 2]? = some (.string (vN vs k)) ∧ (vcells vs)[k * 2 + 1]? = some (.int .i64 (vL vs k)) := by
  induction vs with
  | nil => intro k hk; exact absurd hk (by simp)
  | cons p vs ih =>
    intro k hk
    cases k with
    | zero => exact ⟨rfl, rfl⟩
    | succ k =>
      have := ih k (by simpa using hk)
      have e : (k + 1) * 2 = k * 2 + 1 + 1 := by omega
      rw [e]
      simpa only [vcells, List.getElem?_cons_succ, vN, vL] using this

theorem addr_add0 (g j : Nat) : (⟨g, 0, none⟩ : Addr).add j = ⟨g, j, none⟩ := by
  unfold Addr.add
  split
  · rename_i h0; rw [h0]
  · simp

/-- The cells ys agree with those of vs below k elements. -/
def AgreeV (vs : List (ByteArray × Int)) (ys : List Value) (n k : Nat) : Prop := ys.length = n * 2 ∧ ∀ t, t < k * 2 → ys[t]? = (vcells vs)[t]?
theorem AgreeV.step {vs : List (ByteArray × Int)} {ys : List Value} {n k : Nat} (h : AgreeV vs ys n k) (hl : vs.length = n) (hk : k < n) : AgreeV vs ((ys.set (k * 2) (.string (vN vs k))).set (k * 2 + 1) (.int .i64 (vL vs k))) n (k + 1) := by
  refine ⟨by simpa using h.1, fun t ht => ?_⟩
  have hv := vcells_at vs k (by omega)
  have h1 := h.1
  rcases Nat.lt_trichotomy t (k * 2) with ht1 | rfl | ht1
  · rw [List.getElem?_set_ne (by omega), List.getElem?_set_ne (by omega)]
    exact h.2 t ht1
  · rw [List.getElem?_set_ne (by omega), List.getElem?_set_self (by omega), hv.1]
  · obtain rfl : t = k * 2 + 1 := by omega
    rw [List.getElem?_set_self (by simp; omega), hv.2]
theorem AgreeV.fin {vs : List (ByteArray × Int)} {ys : List Value} {n k : Nat} (h : AgreeV vs ys n k) (hl : vs.length = n) (hk : n ≤ k) : ys = vcells vs := by
  apply List.ext_getElem?
  intro t
  rcases Nat.lt_or_ge t (n * 2) with h1 | h1
  · exact h.2 t (by omega)
  · rw [List.getElem?_eq_none (by have := h.1; omega), List.getElem?_eq_none (by rw [vcells_len]; omega)]
end

section
open Go.RowKit

theorem row_below {w w' : World} {lo n sz : Nat} {T : TypeId} {v : Value} {ys : List Value} (h : w.ownsRow lo T sz v n ys) (hb : Below w.heap.size w w') : w'.ownsRow lo T sz v n ys := by
  refine ⟨h.1, ?_⟩
  rcases h.2 with h0 | ⟨g, cap, cur, hv, hl, hg, hr⟩
  · exact .inl h0
  · exact .inr ⟨g, cap, cur, hv, hl, (hb.block g (lt_of_block hg)).trans hg, hr⟩
theorem row_two {w : World} {lo n c g k : Nat} {T : TypeId} {ys : List Value} (h : w.ownsRow lo T 2 (.slice (some ⟨g, 0, none⟩) n c) n ys) (hk : k < n) :
    (∃ u, w.cell? ⟨g, k * 2, none⟩ = some u) ∧ (∃ u, w.cell? ⟨g, k * 2 + 1, none⟩ = some u) ∧ w.frozen? ⟨g, k * 2, none⟩ = false ∧ w.frozen? ⟨g, k * 2 + 1, none⟩ = false := by
  have hl := h.1
  refine ⟨⟨ys[k * 2]'(by omega), ?_⟩, ⟨ys[k * 2 + 1]'(by omega), ?_⟩, World.ownsRow.frozenAt h _, World.ownsRow.frozenAt h _⟩
  · rw [World.ownsRow.cellAt h _ (by omega), List.getElem?_eq_getElem]
  · rw [World.ownsRow.cellAt h _ (by omega), List.getElem?_eq_getElem]
end

section
open Go.RowKit
end

section
open Go.RowKit

/-- What is left of a room behind a list of n. -/
def szi (n : Nat) (k : Int) : Int := if k - n < 0 then -1 else k - n
theorem szi_in (n : Nat) (k : Int) (h0 : 0 ≤ k) : (-1 ≤ szi n k ∧ szi n k ≤ k) ∧ (0 ≤ szi n k → szi n k = k - n) := by
  unfold szi
  split <;> omega

set_option maxHeartbeats 400000 in
theorem szIntS_any (A : Option Addr) (n c : Nat) (k : Int) (w : World) (hn : n ≤ 9223372036854775807) (h0 : 0 ≤ k) (h1 : k ≤ 1099511627776) :
    Calls Try.prog 24 #[.slice A n c, .int .i64 k] w fun e w' => e = .returned (.int .i64 (szi n k)) ∧ w' = w := by
  go_enter Try.func24, Try.ntmps24
  by_cases hlt : k - n < 0
  · have R := Lib.hid (show (-1 : Int) = szi n k by unfold szi; rw [if_pos hlt])
    go_wp2
    go_ret
    exact ⟨ret_int R.out, rfl⟩
  · have R := Lib.hid (show k - n = szi n k by unfold szi; rw [if_neg hlt])
    go_wp2
    go_ret
    exact ⟨ret_int R.out, rfl⟩
end
end Go.Proofs.Ytcjmapdeopffcaa
