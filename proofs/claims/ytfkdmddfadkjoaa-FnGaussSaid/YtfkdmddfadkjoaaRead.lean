/- Reading the bits of a seed: the program's Stream behind a pointer, the reference's reader; bits and numbers. -/
import Derived.Test.YtfkdmddfadkjoaaStreamB
import Derived.Test.YtfkdmddfadkjoaaFrame
import Derived.Test.YtfkdmddfadkjoaaBox
import Derived.Test.YtfkdmddfadkjoaaBitLen
import Derived.Deep.RegionHeld3
namespace Go.Proofs.Ytfkdmddfadkjoaa
open Go.RowKit

theorem Chg.set {lo hi g i : Nat} {a b : World} {v : Value} (h : Chg lo hi a b) (h1 : lo ≤ g) (h2 : g < hi) : Chg lo hi a (b.setCell ⟨g, i, none⟩ v) :=
  h.trans ⟨rfl, rfl, rfl, by simp, fun k _ ho => Below.heap_setCell b ⟨g, i, none⟩ v k (fun e => by simp at e; omega)⟩
theorem Chg.drew {lo hi : Nat} {a b : World} (h : Chg lo hi a b) : Chg lo hi a b.drew := ⟨h.os, h.tape, h.output, h.size, h.block⟩
theorem Chg.alloc {lo hi : Nat} {a b : World} (h : Chg lo hi a b) (o : Obj) : Chg lo hi a (b.alloc o) := h.trans (Chg.of_below (below_new b o))
theorem Chg.then_ {lo hi : Nat} {a b c : World} (h : Chg lo hi a b) (k : Below b.heap.size b c) : Chg lo hi a c := h.trans (Chg.of_below k)

/-- The program's stream behind a pointer. -/
def StrAt (w : World) (g : Nat) (s a : Int) : Prop := w.heap[g]? = some (.cells #[.int .i64 s, .int .i64 a] 38 (0, 0))
/-- The reference's reader behind a pointer. -/
def RdrAt (w : World) (g : Nat) (s a : Int) (ok : Bool) : Prop := w.heap[g]? = some (.cells #[.int .i64 s, .int .i64 a, .bool ok] 85 (0, 0))

theorem StrAt.lt {w : World} {g : Nat} {s a : Int} (h : StrAt w g s a) : g < w.heap.size := lt_of_block h
theorem RdrAt.lt {w : World} {g : Nat} {s a : Int} {ok : Bool} (h : RdrAt w g s a ok) : g < w.heap.size := lt_of_block h
theorem StrAt.below {w w' : World} {g : Nat} {s a : Int} (h : StrAt w g s a) (hb : Below w.heap.size w w') : StrAt w' g s a := (hb.block g h.lt).trans h
theorem RdrAt.below {w w' : World} {g : Nat} {s a : Int} {ok : Bool} (h : RdrAt w g s a ok) (hb : Below w.heap.size w w') : RdrAt w' g s a ok := (hb.block g h.lt).trans h

set_option maxHeartbeats 400000 in
theorem next_ok (g : Nat) (s a : Int) (w : World) (h : StrAt w g s a) (h0 : 0 ≤ a) (h1 : a < 1000000) :
    Calls Try.prog 99 #[.pointer (some ⟨g, 0, none⟩)] w fun e w' => e = .returned (.tuple #[.int .i64 (bitV s a), .bool true]) ∧ StrAt w' g s (a + 1) ∧ Chg g (g + 1) w w' := by
  have c0 := box_cell h 0 _ rfl
  have c1 := box_cell h 1 _ rfl
  have f1 := box_free h 1
  have k1 : StrAt (w.setCell ⟨g, 1, none⟩ (.int .i64 (a + 1))) g s (a + 1) := box_set h 1 _
  have K1 := Lib.hid ((Chg.refl g (g + 1) w).set (i := 1) (v := .int .i64 (a + 1)) (Nat.le_refl _) (by omega))
  have d0 := box_cell k1 0 _ rfl
  have d1 := box_cell k1 1 _ rfl
  go_enter Try.func99, Try.ntmps99
  go_wp2
  have hwr : IntKind.i64.wrap a = a := IntWalk.i64_in _ (by omega)
  go_region_held3 (fun w2 => w2.cell? ⟨g, 0, none⟩ = some (.int .i64 s) ∧ w2.cell? ⟨g, 1, none⟩ = some (.int .i64 (a + 1))) (go_keep) ((go_at_call 101; refine (bitAt_any _ _ _ h0 h1).mono ?_; rintro e w2 ⟨rfl, hb2⟩; have k2 : StrAt w2 g s (a + 1) := (hb2.block g k1.lt).trans k1; have g0 := box_cell k2 0 _ rfl; have g1 := box_cell k2 1 _ rfl; have K2 := Lib.hid (K1.out.drew.then_ hb2)))
  clear hwr
  go_wp2
  go_ret2
  exact ⟨rfl, k2, K2.out⟩

set_option maxHeartbeats 400000 in
theorem next_no (g : Nat) (s a : Int) (w : World) (h : StrAt w g s a) (h1 : 1000000 ≤ a) :
    Calls Try.prog 99 #[.pointer (some ⟨g, 0, none⟩)] w fun e w' => e = .returned (.tuple #[.int .i64 0, .bool false]) ∧ w = w' := by
  have c0 := box_cell h 0 _ rfl
  have c1 := box_cell h 1 _ rfl
  go_enter Try.func99, Try.ntmps99
  go_wp2
  go_ret2
  exact ⟨rfl, rfl⟩

set_option maxHeartbeats 400000 in
theorem bit_ok (g : Nat) (s a : Int) (w : World) (h : RdrAt w g s a true) (h0 : 0 ≤ a) (h1 : a < 1000000) :
    Calls Try.prog 100 #[.pointer (some ⟨g, 0, none⟩)] w fun e w' => e = .returned (.int .i64 (bitV s a)) ∧ RdrAt w' g s (a + 1) true ∧ Chg g (g + 1) w w' := by
  have c0 := box_cell h 0 _ rfl
  have c1 := box_cell h 1 _ rfl
  have c2 := box_cell h 2 _ rfl
  go_enter Try.func100, Try.ntmps100
  go_wp2
  go_region_held3 (fun w2 => w2.cell? ⟨g, 0, none⟩ = some (.int .i64 s) ∧ w2.cell? ⟨g, 1, none⟩ = some (.int .i64 a)) (go_keep) ((go_at_call 146; refine (kBit_any _ _ _ h0 h1).mono ?_; rintro e w2 ⟨rfl, hb2⟩; have k2 : RdrAt w2 g s a true := (hb2.block g h.lt).trans h; have g0 := box_cell k2 0 _ rfl; have g1 := box_cell k2 1 _ rfl; have gf := box_free k2 1; have K2 := Lib.hid ((Chg.refl g (g + 1) w).drew.then_ hb2)))
  have k3 : RdrAt (w2.setCell ⟨g, 1, none⟩ (.int .i64 (a + 1))) g s (a + 1) true := box_set k2 1 _
  have K3 := Lib.hid (K2.out.set (g := g) (i := 1) (v := .int .i64 (a + 1)) (Nat.le_refl _) (by omega))
  go_wp2
  go_ret
  exact ⟨rfl, k3, K3.out⟩

set_option maxHeartbeats 400000 in
theorem bit_no (g : Nat) (s a : Int) (w : World) (h : RdrAt w g s a true) (h1 : 1000000 ≤ a) :
    Calls Try.prog 100 #[.pointer (some ⟨g, 0, none⟩)] w fun e w' => e = .returned (.int .i64 0) ∧ RdrAt w' g s a false ∧ Chg g (g + 1) w w' := by
  have c0 := box_cell h 0 _ rfl
  have c1 := box_cell h 1 _ rfl
  have c2 := box_cell h 2 _ rfl
  have f2 := box_free h 2
  have k3 : RdrAt (w.setCell ⟨g, 2, none⟩ (.bool false)) g s a false := box_set h 2 _
  have K3 := Lib.hid ((Chg.refl g (g + 1) w).set (g := g) (i := 2) (v := .bool false) (Nat.le_refl _) (by omega))
  have d2 := box_cell k3 2 _ rfl
  go_enter Try.func100, Try.ntmps100
  go_wp2
  go_ret
  exact ⟨rfl, k3, K3.out⟩

set_option maxHeartbeats 400000 in
theorem bit_dead (g : Nat) (s a : Int) (w : World) (h : RdrAt w g s a false) :
    Calls Try.prog 100 #[.pointer (some ⟨g, 0, none⟩)] w fun e w' => e = .returned (.int .i64 0) ∧ RdrAt w' g s a false ∧ Chg g (g + 1) w w' := by
  have c0 := box_cell h 0 _ rfl
  have c1 := box_cell h 1 _ rfl
  have c2 := box_cell h 2 _ rfl
  have f2 := box_free h 2
  by_cases hlt : a < 1000000
  · go_enter Try.func100, Try.ntmps100
    go_wp2
    go_ret
    exact ⟨rfl, h, Chg.refl _ _ _⟩
  · have k3 : RdrAt (w.setCell ⟨g, 2, none⟩ (.bool false)) g s a false := box_set h 2 _
    have K3 := Lib.hid ((Chg.refl g (g + 1) w).set (g := g) (i := 2) (v := .bool false) (Nat.le_refl _) (by omega))
    have d2 := box_cell k3 2 _ rfl
    go_enter Try.func100, Try.ntmps100
    go_wp2
    go_ret
    exact ⟨rfl, k3, K3.out⟩
end Go.Proofs.Ytfkdmddfadkjoaa
