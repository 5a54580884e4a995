/- The joined tests of schema, data and key variables. -/
import Derived.Test.YtgeilnkglbcmeaaData2
namespace Go.Proofs.Ytgeilnkglbcmeaa
open Go.RowKit

/-- Schema, data and key variables are valid. -/
def keyedB (vs : List (ByteArray × Int)) (rs : List RecD) (xs : List Int) : Bool := schB vs && (dataB vs rs && risB xs vs.length)
def swB (vs : List (ByteArray × Int)) (xs : List Int) (n : Nat) : Bool := schB vs && risB xs n
def dinB (vs : List (ByteArray × Int)) (rs : List RecD) : Bool := schB vs && dataB vs rs
def linkedB (vs : List (ByteArray × Int)) (rs qs : List RecD) (xs : List Int) : Bool := keyedB vs rs xs && dataB vs qs
theorem keyedB_sw {vs : List (ByteArray × Int)} {rs : List RecD} {xs : List Int} {n : Nat} (h : vs.length = n) : keyedB vs rs xs = (swB vs xs n && dataB vs rs) := by
  unfold keyedB swB; rw [h]; cases schB vs <;> cases dataB vs rs <;> cases risB xs n <;> rfl

set_option maxHeartbeats 800000 in
theorem areKeyed_any (A B V : Option Addr) (n c m d l k : Nat) (vs : List (ByteArray × Int)) (rs : List RecD) (xs : List Int) (w : World) (hx : SchR w A n c vs) (hy : DatR w B m rs) (hv : IntR w V l xs) :
    Calls Try.prog 63 #[.slice A n c, .slice B m d, .slice V l k] w fun e w' => e = .returned (.bool (keyedB vs rs xs)) ∧ Below w.heap.size w w' := by
  have hlen := Lib.hid hx.len
  cases h0 : schB vs
  · have R := Lib.hid (show false = keyedB vs rs xs by unfold keyedB; rw [hlen.out]; simp [h0])
    have H0 := Lib.hid h0
    clear h0
    go_enter Try.func63, Try.ntmps63
    have B0 := Lib.hid (Below.refl w.heap.size w)
    go_wp2_with fail
    refine (IsSchema_any _ n _ vs _ (hx.below B0.out).v hx.s hx.bd hx.cp).mono ?_
    rintro e w1 ⟨rfl, b1⟩
    rw [H0.out]
    have B1 := Lib.hid (B0.out.trans (b1.mono B0.out.size))
    clear b1
    go_wp2
    go_ret
    exact ⟨ret_bool R.out, B1.out⟩
  cases h1 : dataB vs rs
  · have R := Lib.hid (show false = keyedB vs rs xs by unfold keyedB; rw [hlen.out]; simp [h0, h1])
    have H0 := Lib.hid h0
    have H1 := Lib.hid h1
    clear h0 h1
    go_enter Try.func63, Try.ntmps63
    have B0 := Lib.hid (Below.refl w.heap.size w)
    go_wp2_with fail
    refine (IsSchema_any _ n _ vs _ (hx.below B0.out).v hx.s hx.bd hx.cp).mono ?_
    rintro e w1 ⟨rfl, b1⟩
    rw [H0.out]
    have B1 := Lib.hid (B0.out.trans (b1.mono B0.out.size))
    clear b1
    go_wp2_with fail
    refine (isData_any _ _ n _ m _ vs rs _ (hx.below B1.out) (hy.below B1.out)).mono ?_
    rintro e w2 ⟨rfl, b2⟩
    rw [H1.out]
    have B2 := Lib.hid (B1.out.trans (b2.mono B1.out.size))
    clear b2
    go_wp2
    go_ret
    exact ⟨ret_bool R.out, B2.out⟩
  cases h2 : risB xs n
  · have R := Lib.hid (show false = keyedB vs rs xs by unfold keyedB; rw [hlen.out]; simp [h0, h1, h2])
    have H0 := Lib.hid h0
    have H1 := Lib.hid h1
    have H2 := Lib.hid h2
    clear h0 h1 h2
    go_enter Try.func63, Try.ntmps63
    have B0 := Lib.hid (Below.refl w.heap.size w)
    go_wp2_with fail
    refine (IsSchema_any _ n _ vs _ (hx.below B0.out).v hx.s hx.bd hx.cp).mono ?_
    rintro e w1 ⟨rfl, b1⟩
    rw [H0.out]
    have B1 := Lib.hid (B0.out.trans (b1.mono B0.out.size))
    clear b1
    go_wp2_with fail
    refine (isData_any _ _ n _ m _ vs rs _ (hx.below B1.out) (hy.below B1.out)).mono ?_
    rintro e w2 ⟨rfl, b2⟩
    rw [H1.out]
    have B2 := Lib.hid (B1.out.trans (b2.mono B1.out.size))
    clear b2
    go_wp2_with fail
    refine (areVars_any _ _ n _ l _ xs _ hx.bd (hv.below B2.out)).mono ?_
    rintro e w3 ⟨rfl, rfl⟩
    rw [H2.out]
    have B3 := Lib.hid B2.out
    go_wp2
    go_ret
    exact ⟨ret_bool R.out, B3.out⟩
  have R := Lib.hid (show true = keyedB vs rs xs by unfold keyedB; rw [hlen.out]; simp [h0, h1, h2])
  have H0 := Lib.hid h0
  have H1 := Lib.hid h1
  have H2 := Lib.hid h2
  clear h0 h1 h2
  go_enter Try.func63, Try.ntmps63
  have B0 := Lib.hid (Below.refl w.heap.size w)
  go_wp2_with fail
  refine (IsSchema_any _ n _ vs _ (hx.below B0.out).v hx.s hx.bd hx.cp).mono ?_
  rintro e w1 ⟨rfl, b1⟩
  rw [H0.out]
  have B1 := Lib.hid (B0.out.trans (b1.mono B0.out.size))
  clear b1
  go_wp2_with fail
  refine (isData_any _ _ n _ m _ vs rs _ (hx.below B1.out) (hy.below B1.out)).mono ?_
  rintro e w2 ⟨rfl, b2⟩
  rw [H1.out]
  have B2 := Lib.hid (B1.out.trans (b2.mono B1.out.size))
  clear b2
  go_wp2_with fail
  refine (areVars_any _ _ n _ l _ xs _ hx.bd (hv.below B2.out)).mono ?_
  rintro e w3 ⟨rfl, rfl⟩
  rw [H2.out]
  have B3 := Lib.hid B2.out
  go_wp2
  go_ret
  exact ⟨ret_bool R.out, B3.out⟩

set_option maxHeartbeats 800000 in
theorem swVars_any (A V : Option Addr) (n c l k : Nat) (vs : List (ByteArray × Int)) (xs : List Int) (w : World) (hx : SchR w A n c vs) (hv : IntR w V l xs) :
    Calls Try.prog 130 #[.slice A n c, .slice V l k] w fun e w' => e = .returned (.bool (swB vs xs n)) ∧ Below w.heap.size w w' := by
  have hn := hx.bd
  cases h0 : schB vs
  · have R := Lib.hid (show false = swB vs xs n by unfold swB; simp [h0])
    have H0 := Lib.hid h0
    clear h0
    go_enter Try.func130, Try.ntmps130
    have B0 := Lib.hid (Below.refl w.heap.size w)
    go_wp2_with fail
    refine (sGood_any _ n _ vs _ (hx.below B0.out).v hx.s hx.bd hx.cp).mono ?_
    rintro e w1 ⟨rfl, b1⟩
    rw [H0.out]
    have B1 := Lib.hid (B0.out.trans (b1.mono B0.out.size))
    clear b1
    go_wp2
    go_ret
    exact ⟨ret_bool R.out, B1.out⟩
  cases h1 : risB xs n
  · have R := Lib.hid (show false = swB vs xs n by unfold swB; simp [h0, h1])
    have H0 := Lib.hid h0
    have H1 := Lib.hid h1
    clear h0 h1
    go_enter Try.func130, Try.ntmps130
    have B0 := Lib.hid (Below.refl w.heap.size w)
    go_wp2_with fail
    refine (sGood_any _ n _ vs _ (hx.below B0.out).v hx.s hx.bd hx.cp).mono ?_
    rintro e w1 ⟨rfl, b1⟩
    rw [H0.out]
    have B1 := Lib.hid (B0.out.trans (b1.mono B0.out.size))
    clear b1
    go_wp2_with fail
    refine (l1Rising_any _ n l _ xs _ hx.bd (hv.below B1.out)).mono ?_
    rintro e w2 ⟨rfl, rfl⟩
    rw [H1.out]
    have B2 := Lib.hid B1.out
    go_wp2
    go_ret
    exact ⟨ret_bool R.out, B2.out⟩
  have R := Lib.hid (show true = swB vs xs n by unfold swB; simp [h0, h1])
  have H0 := Lib.hid h0
  have H1 := Lib.hid h1
  clear h0 h1
  go_enter Try.func130, Try.ntmps130
  have B0 := Lib.hid (Below.refl w.heap.size w)
  go_wp2_with fail
  refine (sGood_any _ n _ vs _ (hx.below B0.out).v hx.s hx.bd hx.cp).mono ?_
  rintro e w1 ⟨rfl, b1⟩
  rw [H0.out]
  have B1 := Lib.hid (B0.out.trans (b1.mono B0.out.size))
  clear b1
  go_wp2_with fail
  refine (l1Rising_any _ n l _ xs _ hx.bd (hv.below B1.out)).mono ?_
  rintro e w2 ⟨rfl, rfl⟩
  rw [H1.out]
  have B2 := Lib.hid B1.out
  go_wp2
  go_ret
  exact ⟨ret_bool R.out, B2.out⟩

theorem and_left {a b : Bool} (h : (a && b) = true) : a = true := by cases a <;> simp_all
theorem keyedB_sch {vs : List (ByteArray × Int)} {rs : List RecD} {xs : List Int} (h : keyedB vs rs xs = true) : schB vs = true := and_left h

set_option maxHeartbeats 800000 in
theorem swInput_any (A B V : Option Addr) (n c m d l k : Nat) (vs : List (ByteArray × Int)) (rs : List RecD) (xs : List Int) (w : World) (hx : SchR w A n c vs) (hy : DatR w B m rs) (hv : IntR w V l xs) :
    Calls Try.prog 94 #[.slice A n c, .slice B m d, .slice V l k] w fun e w' => e = .returned (.bool (keyedB vs rs xs)) ∧ Below w.heap.size w w' := by
  have hlen := Lib.hid hx.len
  cases h0 : swB vs xs n
  · have R := Lib.hid (show false = keyedB vs rs xs by rw [keyedB_sw hlen.out]; simp [h0])
    have H0 := Lib.hid h0
    clear h0
    go_enter Try.func94, Try.ntmps94
    have B0 := Lib.hid (Below.refl w.heap.size w)
    go_wp2_with fail
    refine (swVars_any _ _ n _ l _ vs xs _ (hx.below B0.out) (hv.below B0.out)).mono ?_
    rintro e w1 ⟨rfl, b1⟩
    rw [H0.out]
    have B1 := Lib.hid (B0.out.trans (b1.mono B0.out.size))
    clear b1
    go_wp2
    go_ret
    exact ⟨ret_bool R.out, B1.out⟩
  cases h1 : dataB vs rs
  · have R := Lib.hid (show false = keyedB vs rs xs by rw [keyedB_sw hlen.out]; simp [h0, h1])
    have H0 := Lib.hid h0
    have H1 := Lib.hid h1
    clear h0 h1
    go_enter Try.func94, Try.ntmps94
    have B0 := Lib.hid (Below.refl w.heap.size w)
    go_wp2_with fail
    refine (swVars_any _ _ n _ l _ vs xs _ (hx.below B0.out) (hv.below B0.out)).mono ?_
    rintro e w1 ⟨rfl, b1⟩
    rw [H0.out]
    have B1 := Lib.hid (B0.out.trans (b1.mono B0.out.size))
    clear b1
    go_wp2_with fail
    refine (dGood_any _ _ n _ m _ vs rs _ (hx.below B1.out) (hy.below B1.out) (hx.lev (and_left H0.out))).mono ?_
    rintro e w2 ⟨rfl, b2⟩
    rw [H1.out]
    have B2 := Lib.hid (B1.out.trans (b2.mono B1.out.size))
    clear b2
    go_wp2
    go_ret
    exact ⟨ret_bool R.out, B2.out⟩
  have R := Lib.hid (show true = keyedB vs rs xs by rw [keyedB_sw hlen.out]; simp [h0, h1])
  have H0 := Lib.hid h0
  have H1 := Lib.hid h1
  clear h0 h1
  go_enter Try.func94, Try.ntmps94
  have B0 := Lib.hid (Below.refl w.heap.size w)
  go_wp2_with fail
  refine (swVars_any _ _ n _ l _ vs xs _ (hx.below B0.out) (hv.below B0.out)).mono ?_
  rintro e w1 ⟨rfl, b1⟩
  rw [H0.out]
  have B1 := Lib.hid (B0.out.trans (b1.mono B0.out.size))
  clear b1
  go_wp2_with fail
  refine (dGood_any _ _ n _ m _ vs rs _ (hx.below B1.out) (hy.below B1.out) (hx.lev (and_left H0.out))).mono ?_
  rintro e w2 ⟨rfl, b2⟩
  rw [H1.out]
  have B2 := Lib.hid (B1.out.trans (b2.mono B1.out.size))
  clear b2
  go_wp2
  go_ret
  exact ⟨ret_bool R.out, B2.out⟩

set_option maxHeartbeats 800000 in
theorem dInput_any (A B : Option Addr) (n c m d : Nat) (vs : List (ByteArray × Int)) (rs : List RecD) (w : World) (hx : SchR w A n c vs) (hy : DatR w B m rs) :
    Calls Try.prog 103 #[.slice A n c, .slice B m d] w fun e w' => e = .returned (.bool (dinB vs rs)) ∧ Below w.heap.size w w' := by
  cases h0 : schB vs
  · have R := Lib.hid (show false = dinB vs rs by unfold dinB; simp [h0])
    have H0 := Lib.hid h0
    clear h0
    go_enter Try.func103, Try.ntmps103
    have B0 := Lib.hid (Below.refl w.heap.size w)
    go_wp2_with fail
    refine (sGood_any _ n _ vs _ (hx.below B0.out).v hx.s hx.bd hx.cp).mono ?_
    rintro e w1 ⟨rfl, b1⟩
    rw [H0.out]
    have B1 := Lib.hid (B0.out.trans (b1.mono B0.out.size))
    clear b1
    go_wp2
    go_ret
    exact ⟨ret_bool R.out, B1.out⟩
  cases h1 : dataB vs rs
  · have R := Lib.hid (show false = dinB vs rs by unfold dinB; simp [h0, h1])
    have H0 := Lib.hid h0
    have H1 := Lib.hid h1
    clear h0 h1
    go_enter Try.func103, Try.ntmps103
    have B0 := Lib.hid (Below.refl w.heap.size w)
    go_wp2_with fail
    refine (sGood_any _ n _ vs _ (hx.below B0.out).v hx.s hx.bd hx.cp).mono ?_
    rintro e w1 ⟨rfl, b1⟩
    rw [H0.out]
    have B1 := Lib.hid (B0.out.trans (b1.mono B0.out.size))
    clear b1
    go_wp2_with fail
    refine (dGood_any _ _ n _ m _ vs rs _ (hx.below B1.out) (hy.below B1.out) (hx.lev H0.out)).mono ?_
    rintro e w2 ⟨rfl, b2⟩
    rw [H1.out]
    have B2 := Lib.hid (B1.out.trans (b2.mono B1.out.size))
    clear b2
    go_wp2
    go_ret
    exact ⟨ret_bool R.out, B2.out⟩
  have R := Lib.hid (show true = dinB vs rs by unfold dinB; simp [h0, h1])
  have H0 := Lib.hid h0
  have H1 := Lib.hid h1
  clear h0 h1
  go_enter Try.func103, Try.ntmps103
  have B0 := Lib.hid (Below.refl w.heap.size w)
  go_wp2_with fail
  refine (sGood_any _ n _ vs _ (hx.below B0.out).v hx.s hx.bd hx.cp).mono ?_
  rintro e w1 ⟨rfl, b1⟩
  rw [H0.out]
  have B1 := Lib.hid (B0.out.trans (b1.mono B0.out.size))
  clear b1
  go_wp2_with fail
  refine (dGood_any _ _ n _ m _ vs rs _ (hx.below B1.out) (hy.below B1.out) (hx.lev H0.out)).mono ?_
  rintro e w2 ⟨rfl, b2⟩
  rw [H1.out]
  have B2 := Lib.hid (B1.out.trans (b2.mono B1.out.size))
  clear b2
  go_wp2
  go_ret
  exact ⟨ret_bool R.out, B2.out⟩

set_option maxHeartbeats 800000 in
theorem areLinked_any (A B C V : Option Addr) (n c m d m2 d2 l k : Nat) (vs : List (ByteArray × Int)) (rs qs : List RecD) (xs : List Int) (w : World) (hx : SchR w A n c vs) (hy : DatR w B m rs) (hz : DatR w C m2 qs) (hv : IntR w V l xs) :
    Calls Try.prog 98 #[.slice A n c, .slice B m d, .slice C m2 d2, .slice V l k] w fun e w' => e = .returned (.bool (linkedB vs rs qs xs)) ∧ Below w.heap.size w w' := by
  cases h0 : keyedB vs rs xs
  · have R := Lib.hid (show false = linkedB vs rs qs xs by unfold linkedB; simp [h0])
    have H0 := Lib.hid h0
    clear h0
    go_enter Try.func98, Try.ntmps98
    have B0 := Lib.hid (Below.refl w.heap.size w)
    go_wp2_with fail
    refine (areKeyed_any _ _ _ n _ m _ l _ vs rs xs _ (hx.below B0.out) (hy.below B0.out) (hv.below B0.out)).mono ?_
    rintro e w1 ⟨rfl, b1⟩
    rw [H0.out]
    have B1 := Lib.hid (B0.out.trans (b1.mono B0.out.size))
    clear b1
    go_wp2
    go_ret
    exact ⟨ret_bool R.out, B1.out⟩
  cases h1 : dataB vs qs
  · have R := Lib.hid (show false = linkedB vs rs qs xs by unfold linkedB; simp [h0, h1])
    have H0 := Lib.hid h0
    have H1 := Lib.hid h1
    clear h0 h1
    go_enter Try.func98, Try.ntmps98
    have B0 := Lib.hid (Below.refl w.heap.size w)
    go_wp2_with fail
    refine (areKeyed_any _ _ _ n _ m _ l _ vs rs xs _ (hx.below B0.out) (hy.below B0.out) (hv.below B0.out)).mono ?_
    rintro e w1 ⟨rfl, b1⟩
    rw [H0.out]
    have B1 := Lib.hid (B0.out.trans (b1.mono B0.out.size))
    clear b1
    go_wp2_with fail
    refine (isData_any _ _ n _ m2 _ vs qs _ (hx.below B1.out) (hz.below B1.out)).mono ?_
    rintro e w2 ⟨rfl, b2⟩
    rw [H1.out]
    have B2 := Lib.hid (B1.out.trans (b2.mono B1.out.size))
    clear b2
    go_wp2
    go_ret
    exact ⟨ret_bool R.out, B2.out⟩
  have R := Lib.hid (show true = linkedB vs rs qs xs by unfold linkedB; simp [h0, h1])
  have H0 := Lib.hid h0
  have H1 := Lib.hid h1
  clear h0 h1
  go_enter Try.func98, Try.ntmps98
  have B0 := Lib.hid (Below.refl w.heap.size w)
  go_wp2_with fail
  refine (areKeyed_any _ _ _ n _ m _ l _ vs rs xs _ (hx.below B0.out) (hy.below B0.out) (hv.below B0.out)).mono ?_
  rintro e w1 ⟨rfl, b1⟩
  rw [H0.out]
  have B1 := Lib.hid (B0.out.trans (b1.mono B0.out.size))
  clear b1
  go_wp2_with fail
  refine (isData_any _ _ n _ m2 _ vs qs _ (hx.below B1.out) (hz.below B1.out)).mono ?_
  rintro e w2 ⟨rfl, b2⟩
  rw [H1.out]
  have B2 := Lib.hid (B1.out.trans (b2.mono B1.out.size))
  clear b2
  go_wp2
  go_ret
  exact ⟨ret_bool R.out, B2.out⟩

set_option maxHeartbeats 800000 in
theorem liTwo_any (A B C V : Option Addr) (n c m d m2 d2 l k : Nat) (vs : List (ByteArray × Int)) (rs qs : List RecD) (xs : List Int) (w : World) (hx : SchR w A n c vs) (hy : DatR w B m rs) (hz : DatR w C m2 qs) (hv : IntR w V l xs) :
    Calls Try.prog 100 #[.slice A n c, .slice B m d, .slice C m2 d2, .slice V l k] w fun e w' => e = .returned (.bool (linkedB vs rs qs xs)) ∧ Below w.heap.size w w' := by
  cases h0 : keyedB vs rs xs
  · have R := Lib.hid (show false = linkedB vs rs qs xs by unfold linkedB; simp [h0])
    have H0 := Lib.hid h0
    clear h0
    go_enter Try.func100, Try.ntmps100
    have B0 := Lib.hid (Below.refl w.heap.size w)
    go_wp2_with fail
    refine (swInput_any _ _ _ n _ m _ l _ vs rs xs _ (hx.below B0.out) (hy.below B0.out) (hv.below B0.out)).mono ?_
    rintro e w1 ⟨rfl, b1⟩
    rw [H0.out]
    have B1 := Lib.hid (B0.out.trans (b1.mono B0.out.size))
    clear b1
    go_wp2
    go_ret
    exact ⟨ret_bool R.out, B1.out⟩
  cases h1 : dataB vs qs
  · have R := Lib.hid (show false = linkedB vs rs qs xs by unfold linkedB; simp [h0, h1])
    have H0 := Lib.hid h0
    have H1 := Lib.hid h1
    clear h0 h1
    go_enter Try.func100, Try.ntmps100
    have B0 := Lib.hid (Below.refl w.heap.size w)
    go_wp2_with fail
    refine (swInput_any _ _ _ n _ m _ l _ vs rs xs _ (hx.below B0.out) (hy.below B0.out) (hv.below B0.out)).mono ?_
    rintro e w1 ⟨rfl, b1⟩
    rw [H0.out]
    have B1 := Lib.hid (B0.out.trans (b1.mono B0.out.size))
    clear b1
    go_wp2_with fail
    refine (dGood_any _ _ n _ m2 _ vs qs _ (hx.below B1.out) (hz.below B1.out) (hx.lev (keyedB_sch H0.out))).mono ?_
    rintro e w2 ⟨rfl, b2⟩
    rw [H1.out]
    have B2 := Lib.hid (B1.out.trans (b2.mono B1.out.size))
    clear b2
    go_wp2
    go_ret
    exact ⟨ret_bool R.out, B2.out⟩
  have R := Lib.hid (show true = linkedB vs rs qs xs by unfold linkedB; simp [h0, h1])
  have H0 := Lib.hid h0
  have H1 := Lib.hid h1
  clear h0 h1
  go_enter Try.func100, Try.ntmps100
  have B0 := Lib.hid (Below.refl w.heap.size w)
  go_wp2_with fail
  refine (swInput_any _ _ _ n _ m _ l _ vs rs xs _ (hx.below B0.out) (hy.below B0.out) (hv.below B0.out)).mono ?_
  rintro e w1 ⟨rfl, b1⟩
  rw [H0.out]
  have B1 := Lib.hid (B0.out.trans (b1.mono B0.out.size))
  clear b1
  go_wp2_with fail
  refine (dGood_any _ _ n _ m2 _ vs qs _ (hx.below B1.out) (hz.below B1.out) (hx.lev (keyedB_sch H0.out))).mono ?_
  rintro e w2 ⟨rfl, b2⟩
  rw [H1.out]
  have B2 := Lib.hid (B1.out.trans (b2.mono B1.out.size))
  clear b2
  go_wp2
  go_ret
  exact ⟨ret_bool R.out, B2.out⟩

end Go.Proofs.Ytgeilnkglbcmeaa
