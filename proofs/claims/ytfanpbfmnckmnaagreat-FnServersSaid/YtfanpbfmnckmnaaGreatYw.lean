/- Several small texts in one: Hash, Seal, GetD. -/
import Derived.Test.YtfanpbfmnckmnaaGreatRows
import Derived.Test.YtfanpbfmnckmnaaGreatPlain
import Derived.Test.YtfanpbfmnckmnaaGreatZa
import Derived.WalkKit
import Derived.WalkSpells
import Derived.WalkLawsBesides
namespace Go.Proofs.YtfanpbfmnckmnaaGreat

section
open Go.RowKit
end

section
open Go.RowKit

/-- The range test, on a number and on a list. -/
def inR (n lo hi : Int) : Bool := decide (lo ≤ n ∧ n ≤ hi)
theorem inR_yes {n lo hi : Int} (h1 : lo ≤ n) (h2 : n ≤ hi) : inR n lo hi = true := by simp [inR, h1, h2]
theorem inR_no {n lo hi : Int} (h : ¬ (lo ≤ n ∧ n ≤ hi)) : inR n lo hi = false := by simpa [inR] using h
theorem inR_of {n lo hi : Int} (h : inR n lo hi = true) : lo ≤ n ∧ n ≤ hi := by simpa [inR] using h

set_option maxHeartbeats 400000 in
theorem l1In_any (n lo hi : Int) (w : World) :
    Calls Tryz.prog 108 #[.int .i64 n, .int .i64 lo, .int .i64 hi] w fun e w' => e = .returned (.bool (inR n lo hi)) ∧ w = w' := by
  by_cases h1 : lo ≤ n
  · by_cases h2 : n ≤ hi
    · have H := Lib.hid (inR_yes h1 h2)
      go_enter Tryz.func108, Tryz.ntmps108
      go_wp2
      go_ret
      exact ⟨ret_bool H.out.symm, rfl⟩
    · have H := Lib.hid (inR_no (lo := lo) (fun h => h2 h.2))
      go_enter Tryz.func108, Tryz.ntmps108
      go_wp2
      go_ret
      exact ⟨ret_bool H.out.symm, rfl⟩
  · have H := Lib.hid (inR_no (hi := hi) (fun h => h1 h.1))
    go_enter Tryz.func108, Tryz.ntmps108
    go_wp2
    go_ret
    exact ⟨ret_bool H.out.symm, rfl⟩

/-- A slice that the call has just written out. -/
theorem own_new (w : World) (xs : List Int) (n : Nat) (hn : n = xs.length) (hm : n ≤ 1099511627776) : Own (w.alloc (.cells (xs.map (Value.int .i64)).toArray 3)) w.heap.size (some ⟨w.heap.size, 0, none⟩) n n xs := by
  have h := World.ownsRow_lit (e := 3) (size := 1) w (xs.map (Value.int .i64)).toArray n (Nat.le_refl _) (by unfold maxLen; omega) (by simp [hn])
  unfold Own
  simpa using h
theorem below_new (w : World) (o : Obj) : Below w.heap.size w (w.alloc o) := (Below.refl _ _).alloc (Nat.le_refl _) o
end

section

end
end Go.Proofs.YtfanpbfmnckmnaaGreat
