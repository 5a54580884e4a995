/- Operations of the program on valid fractions. -/
import Derived.Test.YtfanpbfmnckmnaaGreatQuotB
namespace Go.Proofs.YtfanpbfmnckmnaaGreat
open Go.RowKit

theorem fracB_sm {n d : Int} (h : fracB n d = true) : sm n ∧ sm d ∧ 1 ≤ d := by
  have := fracB_of h
  exact ⟨sm_of this.2.2.1 this.2.2.2.1, sm_of (by omega) this.2.1, this.1⟩
/-- A sum. -/
def addO (n d p q : Int) : Option (Int × Int) := redO (n * q + p * d) (d * q)

set_option maxHeartbeats 800000 in
theorem addFrac_any (n d p q : Int) (w : World) (h1 : fracB n d = true) (h2 : fracB p q = true) :
    Calls Tryz.prog 172 #[.agg #[.int .i64 n, .int .i64 d], .agg #[.int .i64 p, .int .i64 q]] w fun e w' => e = .returned (.tuple #[.agg #[.int .i64 (fN (addO n d p q)), .int .i64 (fD (addO n d p q))], .bool (fB (addO n d p q))]) ∧ Below w.heap.size w w' := by
  obtain ⟨hn, hd, hd1⟩ := fracB_sm h1
  obtain ⟨hp, hq, hq1⟩ := fracB_sm h2
  have m0 := sm_mul hn hq
  have m1 := sm_mul hp hd
  have m2 := sm_mul hd hq
  obtain ⟨m0a, m0b⟩ := m0
  obtain ⟨m1a, m1b⟩ := m1
  obtain ⟨m2a, m2b⟩ := m2
  have H1 := Lib.hid h1
  have H2 := Lib.hid h2
  clear h1 h2
  obtain ⟨b0, x0, x1, x4⟩ := box_3f w #[.int .i64 n, .int .i64 d] #[.int .i64 p, .int .i64 q] #[.int .i64 0, .int .i64 0] 40 40 40
  have E : Hid (addO n d p q = redO (n * q + p * d) (d * q)) := Lib.hid rfl
  have hne : d * q ≠ 0 := Int.mul_ne_zero (by omega) (by omega)
  go_enter Tryz.func172, Tryz.ntmps172
  go_wp2_with fail
  generalize ((w.alloc (.cells #[.int .i64 n, .int .i64 d] 40)).alloc (.cells #[.int .i64 p, .int .i64 q] 40)).alloc (.cells #[.int .i64 0, .int .i64 0] 40) = w0 at *
  refine (isFrac_any _ _ _).mono ?_
  rintro e w1 ⟨rfl, b1⟩
  rw [H1.out]
  replace x0 := box_below x0 b1
  replace x1 := box_below x1 b1
  replace x4 := box_below x4 b1
  replace b1 := b0.trans (b1.mono b0.size)
  clear b0
  have a0 := box_cell x0 0 _ rfl
  have a1 := box_cell x0 1 _ rfl
  have b00 := box_cell x1 0 _ rfl
  have b01 := box_cell x1 1 _ rfl
  have d0 := box_cell x4 0 _ rfl
  have d1 := box_cell x4 1 _ rfl
  have f0 := box_free x4 0
  have f1 := box_free x4 1
  go_wp2_with fail
  refine (isFrac_any _ _ _).mono ?_
  rintro e w2 ⟨rfl, b2⟩
  rw [H2.out]
  replace x0 := box_below x0 b2
  replace x1 := box_below x1 b2
  replace x4 := box_below x4 b2
  replace b2 := b1.trans (b2.mono b1.size)
  clear b1
  have a0 := box_cell x0 0 _ rfl
  have a1 := box_cell x0 1 _ rfl
  have b00 := box_cell x1 0 _ rfl
  have b01 := box_cell x1 1 _ rfl
  have d0 := box_cell x4 0 _ rfl
  have d1 := box_cell x4 1 _ rfl
  have f0 := box_free x4 0
  have f1 := box_free x4 1
  go_wp2_with fail
  refine (reduced_any _ _ _ (by omega) (by omega) (by omega) (by omega) hne).mono ?_
  rintro e w3 ⟨rfl, b3⟩
  rw [← E.out]
  replace x4 := box_below x4 b3
  replace b3 := b2.trans (b3.mono b2.size)
  clear b2
  have d0 := box_cell x4 0 _ rfl
  have d1 := box_cell x4 1 _ rfl
  have f0 := box_free x4 0
  have f1 := box_free x4 1
  have y4 := store_two x4 (.int .i64 (fN (addO n d p q))) (.int .i64 (fD (addO n d p q)))
  have e0 := box_cell y4 0 _ rfl
  have e1 := box_cell y4 1 _ rfl
  clear m0a m0b m1a m1b m2a m2b
  go_wp2
  refine bodyPost_ret (v := .tuple #[.agg #[.int .i64 (fN (addO n d p q)), .int .i64 (fD (addO n d p q))], .bool (fB (addO n d p q))]) (by simp [results, Tryz.results172, go_sem, e0, e1]) rfl ⟨rfl, below_two b3 (by omega)⟩

end Go.Proofs.YtfanpbfmnckmnaaGreat
