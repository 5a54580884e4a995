/- bits.Len at this translation: the shelf's contract, laid in plain words by the kit's tool. -/
import Derived.Shelf.Small.Bits
import Derived.Test.YtnacabofhjjjpaaRows
namespace Go.Proofs.Ytnacabofhjjjpaa
open Go.Shelf

def lays125_ren : Go.Shelf.Ren := ⟨fun | 125 => 86 | 128 => 105 | 129 => 106 | n => n, fun | 46 => 80 | 3 => 3 | 51 => 90 | 53 => 92 | 4 => 4 | 5 => 5 | 9 => 9 | n => n, fun | n => n⟩
theorem lays125 : Go.Proofs.Lays.n125 Try.prog lays125_ren := {
  mixed := by kernel_rfl
  f125 := Try.func86.trans (congrArg some (by kernel_rfl))
  f128 := Try.func105.trans (congrArg some (by kernel_rfl))
  f129 := Try.func106.trans (congrArg some (by kernel_rfl))
  t3 := Try.underlying3
  a3 := Try.isAgg3
  z3 := Try.sizeOf3
  v3 := Try.zeroValue3
  t4 := Try.underlying4
  a4 := Try.isAgg4
  z4 := Try.sizeOf4
  v4 := Try.zeroValue4
  t5 := Try.underlying5
  a5 := Try.isAgg5
  z5 := Try.sizeOf5
  v5 := Try.zeroValue5
  t9 := Try.underlying9
  a9 := Try.isAgg9
  z9 := Try.sizeOf9
  v9 := Try.zeroValue9
  t46 := Try.underlying80
  a46 := Try.isAgg80
  z46 := Try.sizeOf80
  v46 := Try.zeroValue80
  t51 := Try.underlying90
  a51 := Try.isAgg90
  z51 := Try.sizeOf90
  v51 := Try.zeroValue90
  t53 := Try.underlying92
  a53 := Try.isAgg92
  z53 := Try.sizeOf92
  v53 := Try.zeroValue92 }

/-- bits.Len: the shelf's contract at this translation. -/
theorem bitsLen_any (x : Int) (w : World) (h0 : 0 ≤ x) (h1 : x ≤ 18446744073709551615) :
    Calls Try.prog 86 #[.int .u64 x] w fun e w' => e = .returned (.int .i64 (Lib.bitLen x.toNat)) ∧ w' = w := Any.bits_Len lays125 x w h0 h1
end Go.Proofs.Ytnacabofhjjjpaa
