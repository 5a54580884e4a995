/- Chances of several coins: the program's, printed by gcc.py. -/
import Derived.Test.YtgfihfmlofgopaaCnW
namespace Go.Proofs.Ytgfihfmlofgopaa
open Go.RowKit

def fcells (L : List (Int × Int)) : List Value := L.flatMap fun x => [.int .i64 x.1, .int .i64 x.2]
theorem fcells_nil : fcells [] = [] := rfl
theorem fcells_cons (x : Int × Int) (L : List (Int × Int)) : fcells (x :: L) = .int .i64 x.1 :: .int .i64 x.2 :: fcells L := rfl
theorem fcells_snoc (L : List (Int × Int)) (x : Int × Int) : fcells (L ++ [x]) = fcells L ++ [.int .i64 x.1, .int .i64 x.2] := by simp [fcells]
theorem fcells_len (L : List (Int × Int)) : (fcells L).length = L.length * 2 := by
  induction L with
  | nil => rfl
  | cons x L ih => rw [fcells_cons, List.length_cons, List.length_cons, ih, List.length_cons]; omega
theorem fcells_at {L : List (Int × Int)} : ∀ {j : Nat}, j < L.length → (fcells L)[j * 2]? = some (.int .i64 (fx L j).1) ∧ (fcells L)[j * 2 + 1]? = some (.int .i64 (fx L j).2) := by
  induction L with
  | nil => intro j h; simp at h
  | cons x L ih =>
    intro j h
    cases j with
    | zero => exact ⟨rfl, rfl⟩
    | succ j =>
      have := ih (j := j) (by simpa using h)
      rw [fcells_cons]
      rw [show (j + 1) * 2 = j * 2 + 1 + 1 by omega, show j * 2 + 1 + 1 + 1 = (j * 2 + 1) + 1 + 1 by omega]
      simp only [List.getElem?_cons_succ]
      exact this
theorem row_headF {w : World} {B n c sz : Nat} {T : TypeId} {A : Option Addr} {ys : List Value} (h : w.ownsRow B T sz (.slice A n c) n ys) (h0 : 0 < n) : ∃ g, A = some ⟨g, 0, none⟩ := by
  rcases h.2 with ⟨_, h1⟩ | ⟨g, cap, cur, hv, _⟩
  · omega
  · injection hv with hv
    exact ⟨g, hv⟩
theorem wrap64_in {x : Int} (h0 : -9223372036854775808 ≤ x) (h1 : x ≤ 9223372036854775807) : wrap64 x = x := by
  have := IntWalk.i64_in x (by omega)
  rw [IntKind.wrap_i64] at this
  simpa [wrap64] using this
theorem fracs_read {w : World} {lo n c : Nat} {A : Option Addr} {L : List (Int × Int)} (h : w.ownsRow lo 27 2 (.slice A n c) n (fcells L)) : FracsR w A n L := by
  have hl := h.1
  rw [fcells_len] at hl
  refine ⟨by omega, fun h0 => ?_⟩
  obtain ⟨g, rfl⟩ := row_headF h h0
  refine ⟨_, rfl, fun j hj => ?_⟩
  obtain ⟨e0, e1⟩ := fcells_at (L := L) (j := j) (by omega)
  rw [show (⟨g, 0, none⟩ : Addr).add (j * 2) = ⟨g, j * 2, none⟩ by simp [Addr.add]; omega]
  exact ⟨(World.ownsRow.cellAt h (j * 2) (by omega)).trans e0, (World.ownsRow.cellAt h (j * 2 + 1) (by omega)).trans e1⟩
/-- The first places filled, the others as they were made. -/
def fmid (L : List (Int × Int)) (k : Nat) : List Value := fcells L ++ List.replicate (k * 2) (.int .i64 0)
theorem fmid_set (L : List (Int × Int)) (x : Int × Int) (k : Nat) : ((fmid L (k + 1)).set (L.length * 2) (.int .i64 x.1)).set (L.length * 2 + 1) (.int .i64 x.2) = fmid (L ++ [x]) k := by
  have hl := fcells_len L
  unfold fmid
  rw [fcells_snoc, show (k + 1) * 2 = k * 2 + 1 + 1 by omega, List.replicate_succ, List.replicate_succ, List.set_append_right _ _ (by omega), hl, Nat.sub_self, List.set_append_right _ _ (by omega), hl, show L.length * 2 + 1 - L.length * 2 = 1 by omega]
  simp
theorem fmid_made (n : Nat) : (madeCells (Value.agg #[.int .i64 0, .int .i64 0]).cells (n * 2)).toList = fmid [] n := by
  apply List.ext_getElem?
  intro j
  unfold fmid
  rw [fcells_nil, List.nil_append, List.getElem?_replicate]
  by_cases hj : j < n * 2
  · rw [if_pos hj]
    rcases Nat.mod_two_eq_zero_or_one j with e | e <;> simp [madeCells, Value.cells, hj, e]
  · rw [if_neg hj]
    simp [madeCells, hj]
theorem Try.infoFrac : (Try.prog.info? 27).map (fun i => (i.zero, i.size, i.bytes)) = some (some (.agg #[.int .i64 0, .int .i64 0]), 2, 16) := by kernel_rfl

def kch (n i : Nat) : Nat → Nat
  | 0 => 1
  | t + 1 => kch n i t * (n - i + (t + 1)) / (t + 1)
theorem kch_bd : ∀ n, n < 9 → ∀ i, i < n + 1 → ∀ t, t < i + 1 → 1 ≤ kch n i t ∧ kch n i t ≤ 100 := by decide
theorem kch_chv : ∀ n, n < 9 → ∀ i, i < n + 1 → kch n i i = chv n i := by decide
theorem chv_bd : ∀ n, n < 9 → ∀ i, i < n + 1 → 1 ≤ chv n i ∧ chv n i ≤ 100 := by decide

set_option maxRecDepth 100000 in
set_option maxHeartbeats 2000000 in
theorem kChoose_any (n i : Nat) (w : World) (hn : n ≤ 8) (hi : i ≤ n) :
    Calls Try.prog 54 #[.int .i64 n, .int .i64 i] w fun e w' => e = .returned (.int .i64 (chv n i : Nat)) ∧ w = w' := by
  have HB := Lib.hid (kch_bd n (by omega) i (by omega))
  have HE := Lib.hid (kch_chv n (by omega) i (by omega))
  go_enter Try.func54, Try.ntmps54
  go_wp2
  go_loopw [5, 6] (fun o t wr => ∃ j : Nat, j ≤ i ∧ t = .int .i64 ((j + 1 : Nat) : Int) ∧ o = .int .i64 ((kch n i j : Nat) : Int) ∧ w = wr) (fun _ t _ => i + 1 - (intOf t).toNat)
  case atStart => exact ⟨0, Nat.zero_le _, rfl, rfl, rfl⟩
  case round =>
    obtain ⟨j, hj, rfl, rfl, rfl⟩ := hrel
    by_cases hlt : j < i
    · obtain ⟨h1, h2⟩ := HB.out j (by omega)
      have hs : ((kch n i j : Nat) : Int) * ((n : Int) - (i : Int) + ((j + 1 : Nat) : Int)) = ((kch n i j * (n - i + (j + 1)) : Nat) : Int) := by
        rw [Int.natCast_mul]
        congr 1
        omega
      have hq : (((kch n i j : Nat) : Int) * ((n : Int) - (i : Int) + ((j + 1 : Nat) : Int))).tdiv ((j + 1 : Nat) : Int) = ((kch n i (j + 1) : Nat) : Int) := by
        rw [hs, ← Int.ofNat_tdiv]
        rfl
      have hb : kch n i j * (n - i + (j + 1)) ≤ 100 * 100 := Nat.mul_le_mul h2 (by omega)
      obtain ⟨h3, h4⟩ := HB.out (j + 1) (by omega)
      have hp0 : 0 ≤ ((kch n i j : Nat) : Int) * ((n : Int) - (i : Int) + ((j + 1 : Nat) : Int)) ∧ ((kch n i j : Nat) : Int) * ((n : Int) - (i : Int) + ((j + 1 : Nat) : Int)) ≤ 10000 := by rw [hs]; omega
      have HQ := Lib.hid hq
      clear hs hq hb
      obtain ⟨y, hy9⟩ : ∃ y, ((kch n i (j + 1) : Nat) : Int) = y := ⟨_, rfl⟩
      have HY := Lib.hid hy9.symm
      rw [hy9] at HQ
      have hy : 1 ≤ y ∧ y ≤ 100 := by omega
      clear hy9 h3 h4
      generalize kch n i j = x at *
      have hp1 : 0 ≤ (x : Int) * ((n : Int) - (i : Int) + ((j : Int) + 1)) ∧ (x : Int) * ((n : Int) - (i : Int) + ((j : Int) + 1)) ≤ 10000 := hp0
      clear hp0
      go_wp2
      have hq2 : (x : Int) * ((n : Int) - (i : Int) + ((j : Int) + 1)) / ((j : Int) + 1) = y := by
        have := HQ.out
        rw [Int.tdiv_eq_ediv_of_nonneg (show 0 ≤ (x : Int) * ((n : Int) - (i : Int) + ((j + 1 : Nat) : Int)) from hp1.1)] at this
        exact this
      refine ⟨⟨j + 1, by omega, by go_num, ?_, trivial⟩, by simp [intOf]; omega⟩
      rw [hq2, HY.out]
    · obtain rfl : i = j := by omega
      rw [HE.out]
      go_wp2
      go_ret
      exact ⟨rfl, rfl⟩
end Go.Proofs.Ytgfihfmlofgopaa
