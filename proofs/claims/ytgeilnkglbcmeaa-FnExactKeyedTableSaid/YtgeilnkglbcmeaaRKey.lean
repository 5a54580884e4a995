/- The key of a record: contracts of the program and of the reference. -/
import Derived.Test.YtgeilnkglbcmeaaData3
import Derived.Test.YtgeilnkglbcmeaaAppend
namespace Go.Proofs.Ytgeilnkglbcmeaa
open Go.RowKit

def rkey (sd x y : Int) (xs : List Int) : Int := dig ([5, sd, x, y] ++ xs) % 65536
theorem rkey_bd (sd x y : Int) (xs : List Int) : 0 ≤ rkey sd x y xs ∧ rkey sd x y xs < 65536 := ⟨Int.emod_nonneg _ (by omega), Int.emod_lt_of_pos _ (by omega)⟩

set_option maxHeartbeats 800000 in
theorem recordKey_any (sd x y : Int) (V : Option Addr) (m d : Nat) (xs : List Int) (w : World) (hy : Ints w V m xs) (hm : m ≤ 100000) :
    Calls Try.prog 78 #[.int .i64 sd, .agg #[.int .i64 x, .int .i64 y, .slice V m d]] w fun e w' => e = .returned (.int .i64 (rkey sd x y xs)) ∧ Below w.heap.size w w' := by
  have O : Own ((w.alloc (.cells #[.int .i64 x, .int .i64 y, .slice V m d] 53)).alloc (.cells #[.int .i64 5, .int .i64 sd, .int .i64 x, .int .i64 y] 3)) (w.heap.size + 1) (some ⟨w.heap.size + 1, 0, none⟩) 4 4 [5, sd, x, y] := by
    simpa using own_new (w.alloc (.cells #[.int .i64 x, .int .i64 y, .slice V m d] 53)) [5, sd, x, y] 4 rfl (by omega)
  have hl := Lib.hid hy.1
  have b0 : Below w.heap.size w ((w.alloc (.cells #[.int .i64 x, .int .i64 y, .slice V m d] 53)).alloc (.cells #[.int .i64 5, .int .i64 sd, .int .i64 x, .int .i64 y] 3)) := (below_new w _).alloc (by simp) _
  have HY := Lib.hid (hy.below b0)
  have R := Lib.hid (dig_bd ([5, sd, x, y] ++ xs) (by rw [List.length_append, hl.out]; simp; omega))
  have E := Lib.hid (show dig ([5, sd, x, y] ++ xs) % 65536 = rkey sd x y xs from rfl)
  generalize [5, sd, x, y] = l4 at *
  clear hy hl
  go_enter Try.func78, Try.ntmps78
  go_wp2_with (at_builtin; refine wp_app rfl _ _ rfl (w.heap.size + 1) _ 4 4 l4 rfl O V m d xs rfl HY.out (by omega) (by simp) ?_; intro A2 c2 w2 hown2 hg2 _)
  have hb2 := below_write b0 hg2 (by simp; omega) (fun k hk => by simp [rowOf] at hk; omega)
  go_wp2_with fail
  refine (digest_any _ _ _ _ _ hown2.ints (by omega)).mono ?_
  rintro e w' ⟨rfl, rfl⟩
  have R1 := R.out.1
  have HB := Lib.hid hb2
  clear hown2 hg2 hb2 O
  generalize dig (l4 ++ xs) = D at *
  have R2 := R.out.2
  go_wp2
  go_ret
  exact ⟨ret_int E.out, HB.out⟩

set_option maxHeartbeats 800000 in
theorem yKey_any (sd x y : Int) (V : Option Addr) (m d : Nat) (xs : List Int) (w : World) (hy : Ints w V m xs) (hm : m ≤ 100000) :
    Calls Try.prog 82 #[.int .i64 sd, .agg #[.int .i64 x, .int .i64 y, .slice V m d]] w fun e w' => e = .returned (.int .i64 (rkey sd x y xs)) ∧ Below w.heap.size w w' := by
  have O : Own ((w.alloc (.cells #[.int .i64 x, .int .i64 y, .slice V m d] 53)).alloc (.cells #[.int .i64 5, .int .i64 sd, .int .i64 x, .int .i64 y] 3)) (w.heap.size + 1) (some ⟨w.heap.size + 1, 0, none⟩) 4 4 [5, sd, x, y] := by
    simpa using own_new (w.alloc (.cells #[.int .i64 x, .int .i64 y, .slice V m d] 53)) [5, sd, x, y] 4 rfl (by omega)
  have hl := Lib.hid hy.1
  have b0 : Below w.heap.size w ((w.alloc (.cells #[.int .i64 x, .int .i64 y, .slice V m d] 53)).alloc (.cells #[.int .i64 5, .int .i64 sd, .int .i64 x, .int .i64 y] 3)) := (below_new w _).alloc (by simp) _
  have HY := Lib.hid (hy.below b0)
  have R := Lib.hid (dig_bd ([5, sd, x, y] ++ xs) (by rw [List.length_append, hl.out]; simp; omega))
  have E := Lib.hid (show dig ([5, sd, x, y] ++ xs) % 65536 = rkey sd x y xs from rfl)
  generalize [5, sd, x, y] = l4 at *
  clear hy hl
  go_enter Try.func82, Try.ntmps82
  go_wp2_with (at_builtin; refine wp_app rfl _ _ rfl (w.heap.size + 1) _ 4 4 l4 rfl O V m d xs rfl HY.out (by omega) (by simp) ?_; intro A2 c2 w2 hown2 hg2 _)
  have hb2 := below_write b0 hg2 (by simp; omega) (fun k hk => by simp [rowOf] at hk; omega)
  go_wp2_with fail
  refine (hInts_any _ _ _ _ _ hown2.ints (by omega)).mono ?_
  rintro e w' ⟨rfl, rfl⟩
  have R1 := R.out.1
  have HB := Lib.hid hb2
  clear hown2 hg2 hb2 O
  generalize dig (l4 ++ xs) = D at *
  have R2 := R.out.2
  go_wp2
  go_ret
  exact ⟨ret_int E.out, HB.out⟩
end Go.Proofs.Ytgeilnkglbcmeaa
