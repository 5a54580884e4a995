/- What the laws' marking helpers do to rows of variables and of records. -/
import Derived.Test.YtgeilnkglbcmeaaRecTo
import Derived.Laws.BytesArg
namespace Go.Proofs.Ytgeilnkglbcmeaa
open Go.RowKit

def SomeText (w : World) (e : Ending) (w' : World) : Prop := ∃ s : ByteArray, e = .returned (.string s) ∧ Below w.heap.size w w'

theorem one_text (x : Int) : (strOfNums [x]).size = 1 := rfl

set_option maxRecDepth 100000 in
set_option maxHeartbeats 800000 in
theorem markText_any (n : Int) (w : World) (h0 : 0 ≤ n) (h1 : n ≤ 4611686018427387904) :
    Calls Try.prog 69 #[.int .i64 n] w (SomeText w) := by
  go_enter Try.func69, Try.ntmps69
  by_cases hz : n ≤ 0
  · go_wp2
    go_ret
    exact ⟨_, rfl, Below.refl _ _⟩
  go_wp2
  go_loopw [0, 3] (fun a b wr => ∃ (k : Int) (s : ByteArray), a = .int .i64 k ∧ b = .string s ∧ 0 ≤ k ∧ s.size + k ≤ n ∧ Below w.heap.size w wr) (fun a _ _ => (intOf a).toNat)
  case atStart => exact ⟨n, _, rfl, rfl, h0, by have : (ByteArray.mk #[]).size = 0 := rfl; omega, Below.refl _ _⟩
  case round =>
    obtain ⟨k, s, rfl, rfl, hk0, hks, hbw⟩ := hrel
    by_cases hk : 0 < k
    · have hcell : ∀ i, i < 1 → (wr.alloc (.cells #[.int .u8 (48 + k % 10)] 5)).cell? ⟨wr.heap.size, 0 + i, none⟩ = some (.int .u8 ([48 + k % 10].getD i 0)) := fun i hi => by
        obtain rfl : i = 0 := by omega
        exact box_cell (box_new wr _ _) 0 _ rfl
      have hcv := run_convert_bytes_arg (P := Try.prog) (wr.alloc (.cells #[.int .u8 (48 + k % 10)] 5)) 49 5 Try.underlying49 Try.underlying5 wr.heap.size 0 1 1 [48 + k % 10] rfl hcell 9 Try.underlying9
      clear hcell
      have ho := one_text (48 + k % 10)
      generalize strOfNums [48 + k % 10] = t at *
      have hb2 := hbw.alloc hbw.size (.cells #[.int .u8 (48 + k % 10)] 5)
      have HS := Lib.hid (show ((t ++ s).size : Int) + k / 10 ≤ n by rw [ByteArray.size_append]; omega)
      have hsz : t.size + s.size ≤ 9223372036854775807 := by omega
      clear ho
      go_wp2

      go_roundw
      case rel => exact ⟨k / 10, t ++ s, rfl, rfl, by omega, HS.out, hb2⟩
      case measure => simp [intOf]; omega
    · go_wp2
      go_ret
      exact ⟨_, rfl, hbw⟩

theorem row_head {w : World} {lo n c sz : Nat} {T : TypeId} {A : Option Addr} {ys : List Value} (h : w.ownsRow lo T sz (.slice A n c) n ys) (hn : 0 < n) : ∃ g, A = some ⟨g, 0, none⟩ ∧ lo ≤ g ∧ g < w.heap.size := by
  rcases h.2 with ⟨_, h0⟩ | ⟨g, cap, cur, hv, hb, hg, _⟩
  · omega
  · injection hv with hA
    exact ⟨g, hA, hb, lt_of_block hg⟩
theorem row_ne {w : World} {B lo n c sz m d g : Nat} {T : TypeId} {V : Option Addr} {xs : List Int} {ys : List Value} (ho : Own w B V m d xs) (h : w.ownsRow lo T sz (.slice (some ⟨g, 0, none⟩) n c) n ys) (hT : T ≠ 3) : rowOf V ≠ some g := by
  intro e
  rcases h.2 with ⟨h0, _⟩ | ⟨g', cap, cur, hv, _, hg, _⟩
  · cases h0
  · injection hv with hv
    injection hv with hv
    injection hv with hv
    subst hv
    rcases ho.2 with ⟨h0, _⟩ | ⟨b', cap', cur', hv', _, hh, _⟩
    · injection h0 with h0; subst h0; cases e
    · injection hv' with hv'
      subst hv'
      simp only [rowOf, Option.some.injEq] at e
      subst e
      rw [hg] at hh
      injection hh with hh
      injection hh with _ hh
      exact hT hh

set_option maxRecDepth 100000 in
set_option maxHeartbeats 800000 in
theorem markVariableS_law (A : Option Addr) (lo hi n c : Nat) (k0 : Int) (vs : List (ByteArray × Int)) (w : World) (hx : OwnV w lo hi A n c vs) (h0 : 0 ≤ k0) (h1 : k0 ≤ 2305843009213693952) :
    Calls Try.prog 20 #[.slice A n c, .int .i64 k0] w fun e w' => e = .returned (.int .i64 (k0 + 2 * n)) ∧ Chg lo hi w w' := by
  have hn := hx.small
  have htop := hx.top
  have hown := hx.own
  generalize vcells vs = y0 at *
  clear hx
  go_enter Try.func20, Try.ntmps20
  go_wp2
  go_loopw [1, 5] (fun a i wr => ∃ (j : Nat) (ys : List Value), j ≤ n ∧ i = .int .i64 j ∧ a = .int .i64 (k0 + 2 * j) ∧ wr.ownsRow lo 89 2 (.slice A n c) n ys ∧ Chg lo hi w wr) (fun _ i _ => n - (intOf i).toNat)
  case atStart => exact ⟨0, _, Nat.zero_le _, rfl, by go_num, hown, Chg.refl _ _ _⟩
  case round =>
    clear hown
    obtain ⟨j, ys, hj, rfl, rfl, hown, hbw⟩ := hrel
    by_cases hjn : j < n
    · obtain ⟨g, rfl, hlg, hgs⟩ := row_head hown (by omega)
      have hgh := htop g rfl
      have HO := Lib.hid hown
      have HB := Lib.hid hbw
      clear hown hbw
      go_wp2_with (go_at_call 69; refine (markText_any _ _ (by omega) (by omega)).mono ?_; rintro e w2 ⟨s, rfl, hb2⟩; have R2 := Lib.hid (row_below HO.out hb2); have R3 := Lib.hid (HB.out.then_ hb2); obtain ⟨⟨u0, hu0⟩, ⟨u1, hu1⟩, hf0, hf1⟩ := row_two R2.out hjn)
      go_roundw
      case rel => exact ⟨j + 1, _, by omega, by go_num, by go_num, (World.ownsRow.stored (World.ownsRow.stored R2.out (j * 2) _).1 (j * 2 + 1) _).1, (R3.out.set hlg hgh).set hlg hgh⟩
      case measure => simp [intOf]; omega
    · obtain rfl : j = n := by omega
      go_wp2
      go_ret
      exact ⟨rfl, hbw⟩

set_option maxRecDepth 100000 in
set_option maxHeartbeats 800000 in
theorem markRecordS_law (A : Option Addr) (lo hi n c : Nat) (k0 : Int) (rs : List RecD) (w : World) (hx : OwnRc w lo hi A n c rs) (hn : n ≤ 1048576) (hs : ∀ j, j < n → (rV rs j).length ≤ 1048576) (h0 : 0 ≤ k0) (h1 : k0 ≤ 2305843009213693952) :
    Calls Try.prog 21 #[.slice A n c, .int .i64 k0] w fun e w' => (∃ r, e = .returned (.int .i64 r) ∧ k0 ≤ r ∧ r ≤ k0 + 1099513724928) ∧ Chg lo hi w w' := by
  have htop := hx.top
  obtain ⟨y0, hown, _, hsub⟩ := hx.cells
  clear hx
  go_enter Try.func21, Try.ntmps21
  go_wp2
  go_loopw [1, 5] (fun a i wr => ∃ (j : Nat) (r : Int) (ys : List Value), j ≤ n ∧ i = .int .i64 j ∧ a = .int .i64 r ∧ k0 ≤ r ∧ r ≤ k0 + 1048578 * j ∧ wr.ownsRow lo 53 3 (.slice A n c) n ys ∧ Sub wr lo hi ys 3 2 (rV rs) j n ∧ Chg lo hi w wr) (fun _ i _ => n - (intOf i).toNat)
  case atStart => exact ⟨0, k0, y0, Nat.zero_le _, rfl, rfl, by omega, by omega, hown, hsub, Chg.refl _ _ _⟩
  case round =>
    clear hown hsub
    obtain ⟨j, r, ys, hj, rfl, rfl, hr0, hr1, hown, hsub, hbw⟩ := hrel
    by_cases hjn : j < n
    · obtain ⟨g, rfl, hlg, hgs⟩ := row_head hown (by omega)
      have hgh := htop g rfl
      obtain ⟨V, cc, e2, hV⟩ := hsub.row j (Nat.le_refl _) hjn
      have hm := hs j hjn
      generalize (rV rs j).length = m at *
      have a1 := (World.ownsRow.stored hown (j * 3) (.int .i64 r)).1
      have a2 := (World.ownsRow.stored a1 (j * 3 + 1) (.int .i64 (r + 1))).1
      have s2 := ((hsub.farRow (i := j * 3) (v := .int .i64 r) hown (by decide)).farRow (i := j * 3 + 1) (v := .int .i64 (r + 1)) a1 (by decide)).cells (zs := (ys.set (j * 3) (.int .i64 r)).set (j * 3 + 1) (.int .i64 (r + 1))) (fun t _ ht => by
        rw [List.getElem?_set_ne (by omega), List.getElem?_set_ne (by omega)])
      have e3 : ((ys.set (j * 3) (.int .i64 r)).set (j * 3 + 1) (.int .i64 (r + 1)))[j * 3 + 2]? = some (.slice V m cc) := by
        rw [List.getElem?_set_ne (by omega), List.getElem?_set_ne (by omega)]; exact e2
      have c2 := (hbw.set (i := j * 3) (v := .int .i64 r) hlg hgh).set (i := j * 3 + 1) (v := .int .i64 (r + 1)) hlg hgh
      obtain ⟨V', cc', e3', hV'⟩ := s2.row j (Nat.le_refl _) hjn
      obtain ⟨⟨u0, hu0⟩, ⟨u1, hu1⟩, -, hf0, hf1, -⟩ := row_three hown hjn
      have hc2 : wr.cell? ⟨g, j * 3 + 2, none⟩ = some (.slice V m cc) := (World.ownsRow.cellAt hown (j * 3 + 2) (by have := hown.1; omega)).trans e2
      rw [e3] at e3'
      simp only [Option.some.injEq, Value.slice.injEq] at e3'
      obtain ⟨rfl, em, rfl⟩ := e3'
      rw [← em] at hV'
      clear em
      have Q := Lib.hid (fun w3 (hg : ((wr.setCell ⟨g, j * 3, none⟩ (.int .i64 r)).setCell ⟨g, j * 3 + 1, none⟩ (.int .i64 (r + 1))).grownBy w3 (rowOf V)) => And.intro (s2.mark hjn e3 hg) (And.intro (World.ownsRow.kept a2 hg (by
        have := row_ne hV'.own a2 (by decide)
        exact .inr (fun e => this e.symm))) (c2.trans (Chg.of_grown hg hV'.row))))
      have HV := Lib.hid hV'.own
      clear hown hsub hV a1 a2 s2 c2 hbw hs e2 e3 hV'
      go_wp2_with (go_at_call 22; refine (markIntS_any V lo m cc (r + 1 + 1) (rV rs j) _ HV.out (by omega) (by omega) (by omega)).mono ?_; rintro e w3 ⟨rfl, _, hg3⟩; obtain ⟨q1, q2, q3⟩ := Q.out w3 hg3; have Q1 := Lib.hid q1; have Q2 := Lib.hid q2; have Q3 := Lib.hid q3; clear q1 q2 q3 hg3)
      go_roundw
      case rel => exact ⟨j + 1, r + 1 + 1 + m, _, by omega, by go_num, rfl, by omega, by omega, Q2.out, Q1.out, Q3.out⟩
      case measure => simp [intOf]; omega
    · obtain rfl : j = n := by omega
      go_wp2
      go_ret
      exact ⟨⟨r, rfl, by omega, by omega⟩, hbw⟩
end Go.Proofs.Ytgeilnkglbcmeaa
