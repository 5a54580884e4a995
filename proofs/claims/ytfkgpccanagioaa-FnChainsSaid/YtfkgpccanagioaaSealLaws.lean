/- The contracts of the seals' functions in the form that the laws' walks take. -/
import Derived.Test.YtfkgpccanagioaaFrame
import Derived.Test.YtfkgpccanagioaaBad
import Derived.Test.YtfkgpccanagioaaJoint
import Derived.Test.YtfkgpccanagioaaWords
namespace Go.Proofs.Ytfkgpccanagioaa
open Go.RowKit

theorem chainV_len (xs : List Int) : (chainV xs).length ≤ 1099511627776 := by
  by_cases h : xs.length ≤ 392
  · rw [(chain_yes h).1, chainL, tabl_len]; omega
  · rw [(chain_no h).1]; simp
theorem sealsV_len (ps ns : List Int) : (sealsV ps ns).length ≤ 1099511627776 := by
  cases h : partsB ps ns
  · rw [seals_no h]; simp
  · rw [seals_yes h, sealL, tabl_len]; have := (partsB_of h).1; omega

theorem specChainOf_law (A : Option Addr) (n c : Nat) (xs : List Int) (w : World) (hx : Ints w A n xs) (_hn : n ≤ 1099511627776) :
    Calls Try.prog 22 #[.slice A n c] w fun e w' => ∃ A' c', e = .returned (.tuple #[.slice A' (chainV xs).length c', .bool (chainB xs)]) ∧ OwnI w' w.heap.size w'.heap.size A' (chainV xs).length c' (chainV xs) ∧ Below w.heap.size w w' :=
  (specChainOf_any A n c xs w hx).mono fun _ _ ⟨A', c', h1, h2, h3⟩ => ⟨A', c', h1, OwnI.of_own h2 (chainV_len xs), h3⟩

theorem implChainOf_law (A : Option Addr) (n c : Nat) (xs : List Int) (w : World) (hx : Ints w A n xs) (_hn : n ≤ 1099511627776) :
    Calls Try.prog 21 #[.slice A n c] w fun e w' => ∃ A' c', e = .returned (.tuple #[.slice A' (chainV xs).length c', .bool (chainB xs)]) ∧ OwnI w' w.heap.size w'.heap.size A' (chainV xs).length c' (chainV xs) ∧ Below w.heap.size w w' :=
  (implChainOf_any A n c xs w hx).mono fun _ _ ⟨A', c', h1, h2, h3⟩ => ⟨A', c', h1, OwnI.of_own h2 (chainV_len xs), h3⟩

theorem specSealParts_law (A A' : Option Addr) (n c m c' : Nat) (ps ns : List Int) (w : World) (hx : Ints w A n ps) (hn : n ≤ 1099511627776) (hy : Ints w A' m ns) (hm : m ≤ 1099511627776) :
    Calls Try.prog 12 #[.slice A n c, .slice A' m c'] w fun e w' => ∃ A2 c2, e = .returned (.tuple #[.slice A2 (sealsV ps ns).length c2, .bool (partsB ps ns)]) ∧ OwnI w' w.heap.size w'.heap.size A2 (sealsV ps ns).length c2 (sealsV ps ns) ∧ Below w.heap.size w w' :=
  (specSealParts_any A A' n c m c' ps ns w hx hy hn hm).mono fun _ _ ⟨A', c', h1, h2, h3⟩ => ⟨A', c', h1, OwnI.of_own h2 (sealsV_len ps ns), h3⟩

theorem implSealParts_law (A A' : Option Addr) (n c m c' : Nat) (ps ns : List Int) (w : World) (hx : Ints w A n ps) (hn : n ≤ 1099511627776) (hy : Ints w A' m ns) (hm : m ≤ 1099511627776) :
    Calls Try.prog 11 #[.slice A n c, .slice A' m c'] w fun e w' => ∃ A2 c2, e = .returned (.tuple #[.slice A2 (sealsV ps ns).length c2, .bool (partsB ps ns)]) ∧ OwnI w' w.heap.size w'.heap.size A2 (sealsV ps ns).length c2 (sealsV ps ns) ∧ Below w.heap.size w w' :=
  (implSealParts_any A A' n c m c' ps ns w hx hy hn hm).mono fun _ _ ⟨A', c', h1, h2, h3⟩ => ⟨A', c', h1, OwnI.of_own h2 (sealsV_len ps ns), h3⟩

theorem specFirstBadPart_law (A0 A A' : Option Addr) (l c0 n c m c' : Nat) (ss ps ns : List Int) (w : World) (hs : Ints w A0 l ss) (_hl : l ≤ 1099511627776) (hx : Ints w A n ps) (hn : n ≤ 1099511627776) (hy : Ints w A' m ns) (hm : m ≤ 1099511627776) :
    Calls Try.prog 16 #[.slice A0 l c0, .slice A n c, .slice A' m c'] w fun e w' => e = .returned (.tuple #[.int .i64 (fbpV ss ps ns), .bool (fbpB ss ps ns)]) ∧ Below w.heap.size w w' :=
  specFirstBadPart_any A0 A A' l c0 n c m c' ss ps ns w hs hx hy hn hm

theorem implFirstBadPart_law (A0 A A' : Option Addr) (l c0 n c m c' : Nat) (ss ps ns : List Int) (w : World) (hs : Ints w A0 l ss) (_hl : l ≤ 1099511627776) (hx : Ints w A n ps) (hn : n ≤ 1099511627776) (hy : Ints w A' m ns) (hm : m ≤ 1099511627776) :
    Calls Try.prog 14 #[.slice A0 l c0, .slice A n c, .slice A' m c'] w fun e w' => e = .returned (.tuple #[.int .i64 (fbpV ss ps ns), .bool (fbpB ss ps ns)]) ∧ Below w.heap.size w w' :=
  implFirstBadPart_any A0 A A' l c0 n c m c' ss ps ns w hs hx hy hn hm

theorem specFirstBadLink_law (A A' : Option Addr) (n c m c' : Nat) (xs cs : List Int) (w : World) (hx : Ints w A n xs) (_hn : n ≤ 1099511627776) (hy : Ints w A' m cs) (_hm : m ≤ 1099511627776) :
    Calls Try.prog 25 #[.slice A n c, .slice A' m c'] w fun e w' => e = .returned (.tuple #[.int .i64 (fblV xs cs), .bool (fblB xs cs)]) ∧ Below w.heap.size w w' :=
  specFirstBadLink_any A A' n c m c' xs cs w hx hy

theorem implFirstBadLink_law (A A' : Option Addr) (n c m c' : Nat) (xs cs : List Int) (w : World) (hx : Ints w A n xs) (_hn : n ≤ 1099511627776) (hy : Ints w A' m cs) (_hm : m ≤ 1099511627776) :
    Calls Try.prog 23 #[.slice A n c, .slice A' m c'] w fun e w' => e = .returned (.tuple #[.int .i64 (fblV xs cs), .bool (fblB xs cs)]) ∧ Below w.heap.size w w' :=
  implFirstBadLink_any A A' n c m c' xs cs w hx hy

theorem specJointSeed_law (A : Option Addr) (n c : Nat) (xs : List Int) (w : World) (hx : Ints w A n xs) (hn : n ≤ 1099511627776) :
    Calls Try.prog 19 #[.slice A n c] w fun e w' => e = .returned (.tuple #[.int .i64 (jointV xs), .bool (jointB xs)]) ∧ Below w.heap.size w w' :=
  specJointSeed_any A n c xs w hx hn

theorem implJointSeed_law (A : Option Addr) (n c : Nat) (xs : List Int) (w : World) (hx : Ints w A n xs) (hn : n ≤ 1099511627776) :
    Calls Try.prog 18 #[.slice A n c] w fun e w' => e = .returned (.tuple #[.int .i64 (jointV xs), .bool (jointB xs)]) ∧ Below w.heap.size w w' :=
  implJointSeed_any A n c xs w hx hn

theorem specHashWord_law (s : ByteArray) (w : World) (hs : s.size ≤ 1099511627776) :
    Calls Try.prog 30 #[.string s] w fun e w' => e = .returned (.tuple #[.int .i64 (hashV (byteL s)), .bool (hashB (byteL s))]) ∧ Below w.heap.size w w' :=
  specHashWord_any s w hs

theorem implHashWord_law (s : ByteArray) (w : World) (hs : s.size ≤ 1099511627776) :
    Calls Try.prog 29 #[.string s] w fun e w' => e = .returned (.tuple #[.int .i64 (hashV (byteL s)), .bool (hashB (byteL s))]) ∧ Below w.heap.size w w' :=
  implHashWord_any s w hs

theorem specDerivedSeed_law (a : Int) (s : ByteArray) (w : World) (_hs : s.size ≤ 1099511627776) :
    Calls Try.prog 33 #[.int .i64 a, .string s] w fun e w' => e = .returned (.tuple #[.int .i64 (deriV a s), .bool (deriB a s)]) ∧ Below w.heap.size w w' :=
  specDerivedSeed_any a s w

theorem implDerivedSeed_law (a : Int) (s : ByteArray) (w : World) (_hs : s.size ≤ 1099511627776) :
    Calls Try.prog 32 #[.int .i64 a, .string s] w fun e w' => e = .returned (.tuple #[.int .i64 (deriV a s), .bool (deriB a s)]) ∧ Below w.heap.size w w' :=
  implDerivedSeed_any a s w

end Go.Proofs.Ytfkgpccanagioaa
