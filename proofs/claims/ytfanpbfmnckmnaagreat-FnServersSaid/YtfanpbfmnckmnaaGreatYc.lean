/- Several small texts in one: DrW, DrX. -/
import Derived.Test.YtfanpbfmnckmnaaGreatZj
import Derived.Test.YtfanpbfmnckmnaaGreatYa
namespace Go.Proofs.YtfanpbfmnckmnaaGreat

section
open Go.RowKit

set_option maxRecDepth 100000 in
set_option maxHeartbeats 4000000 in
theorem l1Own_any (A : Option Addr) (n c : Nat) (xs : List Int) (w : World) (hx : Ints w A n xs) (hn : n ≤ 1000000) :
    Calls Tryz.prog 151 #[.slice A n c] w fun e w' => ∃ A' c', e = .returned (.slice A' n c') ∧ OwnI w' w.heap.size w'.heap.size A' n c' xs ∧ Below w.heap.size w w' := by
  have b0 := below_new w (.cells #[] 3)
  have o0 := own_new w [] 0 rfl (by omega)
  have hx0 := hx.below b0
  have z0 := b0.size
  clear hx
  go_enter Tryz.func151, Tryz.ntmps151
  go_wp2_with (at_builtin; refine wp_app rfl _ _ rfl w.heap.size (some ⟨w.heap.size, 0, none⟩) 0 0 [] rfl o0 A n c xs rfl hx0 (by omega) z0 ?_; intro A2 c2 w2 hown hg _)
  simp only [Nat.zero_add, List.nil_append] at hown ⊢
  have B2 := Lib.hid (below_write b0 hg z0 (fun k hk => by simp [rowOf] at hk; omega))
  have O2 := Lib.hid (OwnI.of_own hown (by omega))
  clear b0 o0 hx0 hown hg
  go_wp2
  go_ret
  exact ⟨A2, c2, rfl, O2.out, B2.out⟩

set_option maxRecDepth 100000 in
set_option maxHeartbeats 4000000 in
theorem rOwn_any (x y : Int) (V : Option Addr) (m cv : Nat) (xs : List Int) (w : World) (hx : Ints w V m xs) (hm : m ≤ 1000000) :
    Calls Tryz.prog 152 #[.agg #[.int .i64 x, .int .i64 y, .slice V m cv]] w fun e w' => ∃ V' c', e = .returned (.agg #[.int .i64 x, .int .i64 y, .slice V' m c']) ∧ OwnI w' w.heap.size w'.heap.size V' m c' xs ∧ Below w.heap.size w w' := by
  obtain ⟨b0, x1, x2⟩ := box_two w #[.int .i64 x, .int .i64 y, .slice V m cv] #[.int .i64 0, .int .i64 0, .slice none 0 0] 135 135
  have S := Lib.hid (show ((w.alloc (.cells #[.int .i64 x, .int .i64 y, .slice V m cv] 135)).alloc (.cells #[.int .i64 0, .int .i64 0, .slice none 0 0] 135)).heap.size = w.heap.size + 1 + 1 by simp)
  have HX := Lib.hid (hx.below b0)
  clear hx
  go_enter Tryz.func152, Tryz.ntmps152
  go_wp2_with fail
  generalize (w.alloc (.cells #[.int .i64 x, .int .i64 y, .slice V m cv] 135)).alloc (.cells #[.int .i64 0, .int .i64 0, .slice none 0 0] 135) = w1 at *
  have i0 := bxc x1 0 _ rfl
  have i1 := bxc x1 1 _ rfl
  have i2 := bxc x1 2 _ rfl
  go_region_held3 (fun w' => w'.cell? ⟨w.heap.size, 0, none⟩ = some (.int .i64 x) ∧ w'.cell? ⟨w.heap.size, 1, none⟩ = some (.int .i64 y) ∧ w'.cell? ⟨w.heap.size, 2, none⟩ = some (.slice V m cv)) (first | exact ⟨i0, i1, i2⟩ | exact ⟨q0, q1, q2⟩ | go_keep) ((first | (go_at_call 151; refine (l1Own_any V m cv xs _ (by exact HX.out) hm).mono ?_; rintro e w2 ⟨V2, c2, rfl, o2, b2⟩; have b2' : Below w1.heap.size w1 w2 := (by first | exact b2 | exact (Below.refl _ _).drew.trans b2); have y1 := bxb x1 b2'; have y2 := bxb x2 b2'; have q0 := bxc y1 0 _ rfl; have q1 := bxc y1 1 _ rfl; have q2 := bxc y1 2 _ rfl; have p0 := bxc y2 0 _ rfl; have p1 := bxc y2 1 _ rfl; have p2 := bxc y2 2 _ rfl; have f0 := bxf y2 0; have f1 := bxf y2 1; have f2 := bxf y2 2; have hz2 := b2'.size) | fail))
  have g32 : w.heap.size + 1 < w2.heap.size := by have := S.out; omega
  have HO : Hid (OwnI w2 w1.heap.size w2.heap.size V2 m c2 xs) := Lib.hid (by exact o2)
  have HB := Lib.hid (b0.trans (b2'.mono b0.size))
  clear o2 b2 b2' b0 x1 x2 y1 i0 i1 i2 q0 q1 q2 HX
  have y3 := box_set (box_set (box_set y2 0 (.int .i64 x)) 1 (.int .i64 y)) 2 (.slice V2 m c2)
  have r0 := bxc y3 0 (.int .i64 x) rfl
  have r1 := bxc y3 1 (.int .i64 y) rfl
  have r2 := bxc y3 2 (.slice V2 m c2) rfl
  go_wp2
  refine bodyPost_ret (v := .agg #[.int .i64 x, .int .i64 y, .slice V2 m c2]) (by simp [results, Tryz.results152, go_sem, r0, r1, r2]) rfl ⟨V2, c2, rfl, ?_, (((HB.out.setCell (by simp) _).setCell (by simp) _).setCell (by simp) _)⟩
  have hk := (((Chg.refl (w.heap.size + 1) (w.heap.size + 1 + 1) w2).set (g := w.heap.size + 1) (i := 0) (v := .int .i64 x) (by omega) (by omega)).set (g := w.heap.size + 1) (i := 1) (v := .int .i64 y) (by omega) (by omega)).set (g := w.heap.size + 1) (i := 2) (v := .slice V2 m c2) (by omega) (by omega)
  exact (HO.out.chg hk (.inr (by have := S.out; omega))).fit (by have := S.out; omega)
end

section
open Go.RowKit
end
end Go.Proofs.YtfanpbfmnckmnaaGreat
