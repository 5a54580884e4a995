/- KeyedCells, of the program and of the reference. -/
import Derived.Test.YtgeilnkglbcmeaaCells
namespace Go.Proofs.Ytgeilnkglbcmeaa
open Go.RowKit

def kcB (sd : Int) (vs : List (ByteArray × Int)) (rs : List RecD) (us : List Int) : Bool := inR sd 0 4611686016279904236 && keyedB vs rs us
def kcC (sd : Int) (vs : List (ByteArray × Int)) (rs : List RecD) (us : List Int) : List Int := if kcB sd vs rs us = true then cellsC vs us rs (cellsN vs us) rs.length else []
def kcK (sd : Int) (vs : List (ByteArray × Int)) (rs : List RecD) (us : List Int) : List Int := if kcB sd vs rs us = true then cellsK sd vs us rs (cellsN vs us) rs.length else []
def RetTwo (w : World) (L1 L2 : List Int) (b : Bool) (e : Ending) (w' : World) : Prop :=
  ∃ A1 c1 A2 c2, e = .returned (.tuple #[.slice A1 L1.length c1, .slice A2 L2.length c2, .bool b]) ∧ TwoI w w' A1 L1.length c1 L1 A2 L2.length c2 L2 ∧ Below w.heap.size w w'
theorem TwoI.nil_ {w w' : World} (h : w.heap.size ≤ w'.heap.size) : TwoI w w' none 0 0 [] none 0 0 [] :=
  ⟨w.heap.size, w.heap.size, w.heap.size, w.heap.size, Nat.le_refl _, h, Nat.le_refl _, h, .inl (Nat.le_refl _), OwnI.nil_, OwnI.nil_⟩
theorem TwoI.fit {w0 w w' : World} {A1 A2 : Option Addr} {n1 c1 n2 c2 : Nat} {l1 l2 : List Int} (h : TwoI w w' A1 n1 c1 l1 A2 n2 c2 l2) (hw : w0.heap.size ≤ w.heap.size) : TwoI w0 w' A1 n1 c1 l1 A2 n2 c2 l2 := by
  obtain ⟨p1, q1, p2, q2, h1, h2, h3, h4, h5, h6, h7⟩ := h
  exact ⟨p1, q1, p2, q2, by omega, h2, by omega, h4, h5, h6, h7⟩

set_option maxHeartbeats 1000000 in
theorem yInput_any (sd : Int) (A B U : Option Addr) (n c m d l k' : Nat) (vs : List (ByteArray × Int)) (rs : List RecD) (us : List Int) (w : World) (hx : SchR w A n c vs) (hy : DatR w B m rs) (hu : IntR w U l us) :
    Calls Try.prog 53 #[.int .i64 sd, .slice A n c, .slice B m d, .slice U l k'] w fun e w' => e = .returned (.bool (kcB sd vs rs us)) ∧ Below w.heap.size w w' := by
  have hn := hx.bd
  have hlen := Lib.hid hx.len
  have b0 := below_new w (.cells #[.int .i64 sd] 3)
  have O := own_new w [sd] 1 rfl (by omega)
  cases h0 : inR sd 0 4611686016279904236
  · have R := Lib.hid (show false = kcB sd vs rs us by unfold kcB; rw [h0]; rfl)
    have H0 := Lib.hid h0
    clear h0
    go_enter Try.func53, Try.ntmps53
    go_wp2_with fail
    refine (hDigest_any _ _ _ [sd] _ O.ints (by omega)).mono ?_
    rintro e w1 ⟨rfl, rfl⟩
    rw [allR_one, H0.out]
    go_wp2
    go_ret
    exact ⟨ret_bool R.out, b0⟩
  have H0 := Lib.hid h0
  cases h1 : dinB vs rs
  · have R := Lib.hid (show false = kcB sd vs rs us by
      unfold kcB keyedB; rw [h0]; unfold dinB at h1
      cases hs : schB vs <;> cases hd : dataB vs rs <;> simp_all)
    have H1 := Lib.hid h1
    clear h0 h1
    have hx0 := hx.below b0
    have hy0 := hy.below b0
    go_enter Try.func53, Try.ntmps53
    go_wp2_with fail
    refine (hDigest_any _ _ _ [sd] _ O.ints (by omega)).mono ?_
    rintro e w1 ⟨rfl, rfl⟩
    rw [allR_one, H0.out]
    clear O
    go_wp2_with fail
    refine (dInput_any _ _ n _ m _ vs rs _ hx0 hy0).mono ?_
    rintro e w2 ⟨rfl, b2⟩
    rw [H1.out]
    have B2 := Lib.hid (b0.trans (b2.mono b0.size))
    clear b2 hx hy hu hx0 hy0
    go_wp2
    go_ret
    exact ⟨ret_bool R.out, B2.out⟩
  have H1 := Lib.hid h1
  have R := Lib.hid (show risB us n = kcB sd vs rs us by
    unfold kcB keyedB; rw [h0, hlen.out]; unfold dinB at h1
    cases hs : schB vs <;> cases hd : dataB vs rs <;> simp_all)
  clear h0 h1
  have hx0 := hx.below b0
  have hy0 := hy.below b0
  have hu0 := hu.below b0
  go_enter Try.func53, Try.ntmps53
  go_wp2_with fail
  refine (hDigest_any _ _ _ [sd] _ O.ints (by omega)).mono ?_
  rintro e w1 ⟨rfl, rfl⟩
  rw [allR_one, H0.out]
  clear O
  go_wp2_with fail
  refine (dInput_any _ _ n _ m _ vs rs _ hx0 hy0).mono ?_
  rintro e w2 ⟨rfl, b2⟩
  rw [H1.out]
  have B2 := Lib.hid (b0.trans (b2.mono b0.size))
  have hu2 := hu0.below b2
  clear b2 hx hy hu hx0 hy0
  go_wp2_with fail
  refine (l1Rising_any _ n l _ us _ hn hu2).mono ?_
  rintro e w3 ⟨rfl, rfl⟩
  rw [R.out]
  clear hu2
  go_wp2
  go_ret
  exact ⟨rfl, B2.out⟩

set_option maxHeartbeats 1000000 in
theorem implKeyedCells_law (sd : Int) (A B U : Option Addr) (n c m d l k' : Nat) (vs : List (ByteArray × Int)) (rs : List RecD) (us : List Int) (w : World) (hx : SchR w A n c vs) (hy : DatR w B m rs) (hu : IntR w U l us) :
    Calls Try.prog 32 #[.int .i64 sd, .slice A n c, .slice B m d, .slice U l k'] w (RetTwo w (kcC sd vs rs us) (kcK sd vs rs us) (kcB sd vs rs us)) := by
  have hlen := hx.len
  have hml := Lib.hid hy.len
  cases h0 : inR sd 0 4611686016279904236
  · have hB : kcB sd vs rs us = false := by unfold kcB; rw [h0]; rfl
    have H0 := Lib.hid h0
    clear h0
    have HB := Lib.hid hB
    have HC : Hid (kcC sd vs rs us = []) := Lib.hid (by rw [kcC, if_neg (by simp [hB])])
    have HK : Hid (kcK sd vs rs us = []) := Lib.hid (by rw [kcK, if_neg (by simp [hB])])
    rw [HC.out, HK.out, HB.out]
    clear hB hlen
    go_enter Try.func32, Try.ntmps32
    go_wp2_with fail
    refine (isSeed_any _ _).mono ?_
    rintro e w1 ⟨rfl, rfl⟩
    rw [H0.out]
    clear hx hy hu
    go_wp2
    go_ret3
    exact ⟨none, 0, none, 0, rfl, TwoI.nil_ (Nat.le_refl _), (Below.refl _ _)⟩
  have H0 := Lib.hid h0
  cases h1 : keyedB vs rs us
  · have hB : kcB sd vs rs us = false := by unfold kcB; rw [h0, h1]; rfl
    have H1 := Lib.hid h1
    clear h0 h1
    have HB := Lib.hid hB
    have HC : Hid (kcC sd vs rs us = []) := Lib.hid (by rw [kcC, if_neg (by simp [hB])])
    have HK : Hid (kcK sd vs rs us = []) := Lib.hid (by rw [kcK, if_neg (by simp [hB])])
    rw [HC.out, HK.out, HB.out]
    clear hB hlen
    go_enter Try.func32, Try.ntmps32
    go_wp2_with fail
    refine (isSeed_any _ _).mono ?_
    rintro e w1 ⟨rfl, rfl⟩
    rw [H0.out]
    go_wp2_with fail
    refine (areKeyed_any _ _ _ n _ m _ l _ vs rs us _ hx hy hu).mono ?_
    rintro e w2 ⟨rfl, b1⟩
    rw [H1.out]
    have B1 := Lib.hid b1
    clear b1 hx hy hu
    go_wp2
    go_ret3
    exact ⟨none, 0, none, 0, rfl, TwoI.nil_ B1.out.size, B1.out⟩
  have H1 := Lib.hid h1
  have hB : kcB sd vs rs us = true := by unfold kcB; rw [h0, h1]; rfl
  clear h0 h1
  have HB := Lib.hid hB
  have HC : Hid (kcC sd vs rs us = cellsC vs us rs (cellsN vs us) m) := Lib.hid (by rw [kcC, if_pos hB, hml.out])
  have HK : Hid (kcK sd vs rs us = cellsK sd vs us rs (cellsN vs us) m) := Lib.hid (by rw [kcK, if_pos hB, hml.out])
  have hk := keyed_all hlen (by simp only [kcB, Bool.and_eq_true] at hB; exact hB.2)
  have HL1 := Lib.hid (cellsC_len vs us rs (cellsN vs us) m)
  have HL2 := Lib.hid (cellsK_len sd vs us rs (cellsN vs us) m)
  rw [HC.out, HK.out]
  rw [HB.out]
  clear hB hlen
  go_enter Try.func32, Try.ntmps32
  go_wp2_with fail
  refine (isSeed_any _ _).mono ?_
  rintro e w1 ⟨rfl, rfl⟩
  rw [H0.out]
  go_wp2_with fail
  refine (areKeyed_any _ _ _ n _ m _ l _ vs rs us _ hx hy hu).mono ?_
  rintro e w2 ⟨rfl, b1⟩
  rw [H1.out]
  have hx1 := hx.below b1
  have hy1 := hy.below b1
  have hu1 := hu.below b1
  have B1 := Lib.hid b1
  clear b1 hx hy hu
  go_wp2_with fail
  refine (keyedCells_any sd _ _ _ n _ m _ l _ vs rs us _ hx1 hy1 hu1 hk).mono ?_
  rintro e w9 ⟨A1, c1, A2, c2, rfl, T9, b9⟩
  have B9 := Lib.hid (B1.out.trans (b9.mono B1.out.size))
  have T := Lib.hid (T9.fit B1.out.size)
  clear b9 T9 hx1 hy1 hu1
  go_wp2
  go_ret3
  exact ⟨A1, c1, A2, c2, by rw [HL1.out, HL2.out]; rfl, by rw [HL1.out, HL2.out]; exact T.out, B9.out⟩

end Go.Proofs.Ytgeilnkglbcmeaa
