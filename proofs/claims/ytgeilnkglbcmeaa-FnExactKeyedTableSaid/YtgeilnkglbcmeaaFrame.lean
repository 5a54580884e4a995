/- What a law keeps in hand: rows between two marks of the heap, and writes between two marks. -/
import Derived.Test.YtgeilnkglbcmeaaSlices
namespace Go.Proofs.Ytgeilnkglbcmeaa
open Go.RowKit

/-- w' is w but for blocks from lo on and below hi, and new ones. -/
structure Chg (lo hi : Nat) (w w' : World) : Prop where
  os : w'.os = w.os
  tape : w'.tape = w.tape
  output : w'.output = w.output
  size : w.heap.size ≤ w'.heap.size
  block : ∀ k, k < w.heap.size → (k < lo ∨ hi ≤ k) → w'.heap[k]? = w.heap[k]?

theorem Chg.refl (lo hi : Nat) (w : World) : Chg lo hi w w := ⟨rfl, rfl, rfl, Nat.le_refl _, fun _ _ _ => rfl⟩
theorem Chg.trans {lo hi : Nat} {a b c : World} (h : Chg lo hi a b) (k : Chg lo hi b c) : Chg lo hi a c :=
  ⟨k.os.trans h.os, k.tape.trans h.tape, k.output.trans h.output, Nat.le_trans h.size k.size, fun i hi' ho => (k.block i (Nat.lt_of_lt_of_le hi' h.size) ho).trans (h.block i hi' ho)⟩
theorem Chg.mono {lo hi lo' hi' : Nat} {a b : World} (h : Chg lo hi a b) (h1 : lo' ≤ lo) (h2 : hi ≤ hi') : Chg lo' hi' a b :=
  ⟨h.os, h.tape, h.output, h.size, fun k hk ho => h.block k hk (by omega)⟩
theorem Chg.of_below {lo hi : Nat} {a b : World} (h : Below a.heap.size a b) : Chg lo hi a b := ⟨h.os, h.tape, h.output, h.size, fun k hk _ => h.block k hk⟩
theorem Chg.of_grown {lo hi : Nat} {a b : World} {A : Option Addr} (h : a.grownBy b (rowOf A)) (hr : ∀ k, rowOf A = some k → lo ≤ k ∧ k < hi) : Chg lo hi a b :=
  ⟨h.os, h.tape, h.output, h.size, fun k hk ho => h.block k hk (fun e => by have := hr k e.symm; omega)⟩
theorem Chg.below {lo hi B : Nat} {w0 a b : World} (h : Chg lo hi a b) (hb : Below B w0 a) (h1 : B ≤ lo) (h2 : B ≤ a.heap.size) : Below B w0 b :=
  ⟨h.os.trans hb.os, h.tape.trans hb.tape, h.output.trans hb.output, Nat.le_trans hb.size h.size, fun k hk => (h.block k (by omega) (.inl (by omega))).trans (hb.block k hk)⟩

/-- A row of ints of the call's own, in a block from lo on and below hi. -/
structure OwnI (w : World) (lo hi : Nat) (A : Option Addr) (n c : Nat) (xs : List Int) : Prop where
  own : Own w lo A n c xs
  top : ∀ k, rowOf A = some k → k < hi
  small : n ≤ 1099511627776
theorem OwnI.of_own {w : World} {B : Nat} {A : Option Addr} {n c : Nat} {xs : List Int} (h : Own w B A n c xs) (hn : n ≤ 1099511627776) : OwnI w B w.heap.size A n c xs :=
  ⟨h, fun k hk => (h.row_ge k hk).2, hn⟩
theorem OwnI.fit {w : World} {lo lo' hi : Nat} {A : Option Addr} {n c : Nat} {xs : List Int} (h : OwnI w lo hi A n c xs) (hl : lo' ≤ lo) : OwnI w lo' w.heap.size A n c xs := OwnI.of_own (h.own.mono hl) h.small
theorem OwnI.drew {w : World} {lo hi : Nat} {A : Option Addr} {n c : Nat} {xs : List Int} (h : OwnI w lo hi A n c xs) : OwnI w.drew lo hi A n c xs := ⟨h.own, h.top, h.small⟩
theorem OwnI.ints {w : World} {lo hi : Nat} {A : Option Addr} {n c : Nat} {xs : List Int} (h : OwnI w lo hi A n c xs) : Ints w A n xs := h.own.ints
theorem OwnI.below {w w' : World} {lo hi : Nat} {A : Option Addr} {n c : Nat} {xs : List Int} (h : OwnI w lo hi A n c xs) (hb : Below w.heap.size w w') : OwnI w' lo hi A n c xs :=
  ⟨h.own.below hb, h.top, h.small⟩
theorem OwnI.row {w : World} {lo hi : Nat} {A : Option Addr} {n c : Nat} {xs : List Int} (h : OwnI w lo hi A n c xs) : ∀ k, rowOf A = some k → lo ≤ k ∧ k < hi :=
  fun k hk => ⟨(h.own.row_ge k hk).1, h.top k hk⟩
theorem OwnI.chg {w w' : World} {lo hi lo' hi' : Nat} {A : Option Addr} {n c : Nat} {xs : List Int} (h : OwnI w lo hi A n c xs) (hc : Chg lo' hi' w w') (hd : hi ≤ lo' ∨ hi' ≤ lo) : OwnI w' lo hi A n c xs :=
  ⟨h.own.keep fun g hA hlt => hc.block g hlt (by
    have h1 := h.row g (by rw [hA]; rfl)
    omega), h.top, h.small⟩

theorem toIntS_law (A : Option Addr) (n c : Nat) (xs : List Int) (w : World) (hx : Ints w A n xs) (hn : n ≤ 1099511627776) :
    Calls Try.prog 13 #[.slice A n c] w fun e w' => ∃ A' c', e = .returned (.slice A' n c') ∧ OwnI w' w.heap.size w'.heap.size A' n c' xs ∧ Below w.heap.size w w' :=
  (toIntS_any A n c xs w hx hn).mono fun _ _ ⟨h1, h2, h3⟩ => ⟨_, _, h1, OwnI.of_own h2 hn, h3⟩

theorem eqIntS_law (A A' : Option Addr) (n c c' : Nat) (xs : List Int) (w : World) (hx : Ints w A n xs) (hy : Ints w A' n xs) (hn : n ≤ 1099511627776) :
    Calls Try.prog 15 #[.slice A n c, .slice A' n c'] w fun e w' => e = .returned (.bool true) ∧ Below w.heap.size w w' :=
  (eqIntS_true A A' n c c' xs w hx hy hn).mono fun _ _ ⟨h1, q, h2⟩ => ⟨h1, h2 ▸ below_drewN (Below.refl _ _) q⟩

theorem markIntS_law (A : Option Addr) (lo hi n c : Nat) (k0 : Int) (xs : List Int) (w : World) (hx : OwnI w lo hi A n c xs) (h0 : 0 ≤ k0) (h1 : k0 ≤ 4611686018427387904) :
    Calls Try.prog 22 #[.slice A n c, .int .i64 k0] w fun e w' => e = .returned (.int .i64 (k0 + n)) ∧ OwnI w' lo hi A n c (marks k0 n) ∧ Chg lo hi w w' :=
  (markIntS_any A lo n c k0 xs w hx.own hx.small h0 h1).mono fun _ _ ⟨h1, h2, h3⟩ => ⟨h1, ⟨h2, hx.top, hx.small⟩, Chg.of_grown h3 hx.row⟩

theorem heldIntS_law (A : Option Addr) (n c : Nat) (k0 : Int) (w : World) (hx : Ints w A n (marks k0 n)) (hn : n ≤ 1099511627776) (h0 : 0 ≤ k0) (h1 : k0 ≤ 4611686018427387904) :
    Calls Try.prog 23 #[.slice A n c, .int .i64 k0] w fun e w' => e = .returned (.int .i64 (k0 + n)) ∧ Below w.heap.size w w' :=
  (heldIntS_any A n c k0 w hx hn h0 h1).mono fun _ _ ⟨h1, h2⟩ => ⟨h1, h2 ▸ Below.refl _ _⟩
end Go.Proofs.Ytgeilnkglbcmeaa
