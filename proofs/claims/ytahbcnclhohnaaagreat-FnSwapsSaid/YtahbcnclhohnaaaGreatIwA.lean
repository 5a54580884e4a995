/- Which records can be swapped, by the program; printed by giw.py. -/
import Derived.Test.YtahbcnclhohnaaaGreatZk
namespace Go.Proofs.YtahbcnclhohnaaaGreat
open Go.RowKit

def swpB (x k x2 k2 : Int) : Bool := (x != x2) && (k == k2)

set_option maxHeartbeats 2000000 in
theorem canSwap_any (A V V2 U : Option Addr) (n c m d m2 d2 l k' : Nat) (x y x2 y2 : Int) (vs : List (ByteArray × Int)) (xs xs2 us : List Int) (w : World) (hx : SchR w A n c vs) (hy : IntR w V m xs) (hz : IntR w V2 m2 xs2) (hu : IntR w U l us) (hk : KeyOk vs xs us n) (hk2 : KeyOk vs xs2 us n) :
    Calls Tryz.prog 37 #[.slice A n c, .agg #[.int .i64 x, .int .i64 y, .slice V m d], .agg #[.int .i64 x2, .int .i64 y2, .slice V2 m2 d2], .slice U l k'] w fun e w' => e = .returned (.bool (swpB x (keyV vs xs us) x2 (keyV vs xs2 us))) ∧ Below w.heap.size w w' := by
  obtain ⟨b0, x0, x1⟩ := box_two w #[.int .i64 x, .int .i64 y, .slice V m d] #[.int .i64 x2, .int .i64 y2, .slice V2 m2 d2] 79 79
  have c0 := box_cell x0 0 (.int .i64 x) rfl
  have c1 := box_cell x0 1 (.int .i64 y) rfl
  have c2 := box_cell x0 2 (.slice V m d) rfl
  have d0 := box_cell x1 0 (.int .i64 x2) rfl
  have d1 := box_cell x1 1 (.int .i64 y2) rfl
  have d2' := box_cell x1 2 (.slice V2 m2 d2) rfl
  replace hx := hx.below b0
  replace hy := hy.below b0
  replace hz := hz.below b0
  replace hu := hu.below b0
  cases hA : x != x2
  · have R := Lib.hid (show false = swpB x (keyV vs xs us) x2 (keyV vs xs2 us) by unfold swpB; rw [hA]; rfl)
    clear hx hy hz hu x0 x1
    go_enter Tryz.func37, Tryz.ntmps37
    go_wp2
    go_quiet (fail)
    go_wp2
    go_ret
    exact ⟨ret_bool R.out, below_drewN b0 _⟩
  · have R := Lib.hid (show (keyV vs xs us == keyV vs xs2 us) = swpB x (keyV vs xs us) x2 (keyV vs xs2 us) by unfold swpB; rw [hA, Bool.true_and])
    go_enter Tryz.func37, Tryz.ntmps37
    go_wp2
    generalize (w.alloc (.cells #[.int .i64 x, .int .i64 y, .slice V m d] 79)).alloc (.cells #[.int .i64 x2, .int .i64 y2, .slice V2 m2 d2] 79) = w0 at *
    have B0 := b0.drew
    have X0 : SchR w0.drew A n c vs := ⟨hx.v, hx.s, hx.bd, hx.cp⟩
    have Y0 : IntR w0.drew V m xs := ⟨hy.i, hy.bd⟩
    have Z0 : IntR w0.drew V2 m2 xs2 := ⟨hz.i, hz.bd⟩
    have U0 : IntR w0.drew U l us := ⟨hu.i, hu.bd⟩
    have p0 : w0.drew.heap[w.heap.size]? = _ := x0
    have q0 : w0.drew.heap[w.heap.size + 1]? = _ := x1
    go_region_held3 (fun w' => w'.cell? ⟨w.heap.size, 0, none⟩ = some (.int .i64 x) ∧ w'.cell? ⟨w.heap.size, 1, none⟩ = some (.int .i64 y) ∧ w'.cell? ⟨w.heap.size, 2, none⟩ = some (.slice V m d) ∧ w'.cell? ⟨w.heap.size + 1, 0, none⟩ = some (.int .i64 x2) ∧ w'.cell? ⟨w.heap.size + 1, 1, none⟩ = some (.int .i64 y2) ∧ w'.cell? ⟨w.heap.size + 1, 2, none⟩ = some (.slice V2 m2 d2)) (go_keep)
      ((go_at_call 42; refine (keyOf_any _ _ _ n _ _ _ l _ _ _ vs _ us _ (by first | exact X1 | exact X0) (by first | exact Y1 | exact Z1 | exact Y0 | exact Z0) (by first | exact U1 | exact U0) (by first | exact hk | exact hk2)).mono ?_; rintro e w1 ⟨rfl, b1⟩; (first | (have X2 := X1.below b1; have B2 := keepB B1 (Nat.le_refl _) b1; have p2 := box_below p1 b1; have q2 := box_below q1 b1; have e0 := box_cell p2 0 (.int .i64 x) rfl; have e1 := box_cell p2 1 (.int .i64 y) rfl; have e2 := box_cell p2 2 (.slice V m d) rfl; have f0 := box_cell q2 0 (.int .i64 x2) rfl; have f1 := box_cell q2 1 (.int .i64 y2) rfl; have f2 := box_cell q2 2 (.slice V2 m2 d2) rfl) | (have X1 := X0.below b1; have Y1 := Y0.below b1; have Z1 := Z0.below b1; have U1 := U0.below b1; have B1 := keepB B0 (Nat.le_refl _) b1; have p1 := box_below p0 b1; have q1 := box_below q0 b1; have e0 := box_cell p1 0 (.int .i64 x) rfl; have e1 := box_cell p1 1 (.int .i64 y) rfl; have e2 := box_cell p1 2 (.slice V m d) rfl; have f0 := box_cell q1 0 (.int .i64 x2) rfl; have f1 := box_cell q1 1 (.int .i64 y2) rfl; have f2 := box_cell q1 2 (.slice V2 m2 d2) rfl))))
    all_goals (go_wp2; go_ret; exact ⟨ret_bool R.out, B2⟩)
end Go.Proofs.YtahbcnclhohnaaaGreat
