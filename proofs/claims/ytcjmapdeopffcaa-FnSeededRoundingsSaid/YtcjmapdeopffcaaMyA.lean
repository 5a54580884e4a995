/- Networks in memory, the matrix that is filled, and the room between two of its nodes. -/
import Derived.Test.YtcjmapdeopffcaaHc
import Derived.Test.YtcjmapdeopffcaaHa
import Derived.BigQuiet
namespace Go.Proofs.Ytcjmapdeopffcaa
open Go.RowKit Flo
set_option linter.unusedVariables false

/-- A network that is read. -/
structure NetR (w : World) (R C L H : Option Addr) (t : Net) : Prop where
  r : VecR w R t.n t.R
  c : VecR w C t.m t.C
  lo : MatR w L t.n t.m t.lo
  hi : MatR w H t.n t.m t.hi
/-- Its bounds. -/
structure NetB (t : Net) : Prop where
  n1 : 1 ≤ t.n
  n8 : t.n ≤ 8
  m1 : 1 ≤ t.m
  m8 : t.m ≤ 8
  r : ∀ i, i < t.n → 0 ≤ t.R i ∧ t.R i ≤ 100000
  c : ∀ j, j < t.m → 0 ≤ t.C j ∧ t.C j ≤ 100000
  b : ∀ i j, i < t.n → j < t.m → 0 ≤ t.lo i j ∧ t.lo i j ≤ t.hi i j ∧ t.hi i j ≤ 100000
theorem NetR.below {w w' : World} {R C L H : Option Addr} {t : Net} (h : NetR w R C L H t) (hb : Below w.heap.size w w') : NetR w' R C L H t :=
  ⟨Ints.below h.r hb, Ints.below h.c hb, IntsS.below h.lo hb, IntsS.below h.hi hb⟩
/-- Bounds of a matrix within a network's bounds. -/
def InB (t : Net) (x : Nat → Nat → Int) : Prop := ∀ i j, i < t.n → j < t.m → t.lo i j ≤ x i j ∧ x i j ≤ t.hi i j
theorem cellLater {w w' : World} {a : Addr} {v : Value} (h : w.cell? a = some v) (hb : Below w.heap.size w w') : w'.cell? a = some v := (hb.cell (block_lt_of_cell h)).trans h

set_option maxRecDepth 100000 in
set_option maxHeartbeats 2000000 in
theorem room_any (F n m : Nat) (R C L H X A B : Option Addr) (rc cc lc hc xc ac bc : Nat) (t : Net) (x : Nat → Nat → Int) (v k : Nat) (w : World) (en : t.n = n) (em : t.m = m)
    (hF : w.heap[F]? = some (.cells #[.slice R n rc, .slice C m cc, .slice L n lc, .slice H n hc, .slice X n xc, .slice A n ac, .slice B m bc] 97 (0, 0)))
    (hN : NetR w R C L H t) (hX : MatR w X n m x) (ht : NetB t) (hi : InB t x) (hv : v < n + m) (hk : k < n + m) :
    Calls Try.prog 107 #[.pointer (some ⟨F, 0, none⟩), .int .i64 v, .int .i64 k] w fun e w' => e = .returned (.int .i64 (roomV t x v k)) ∧ Below w.heap.size w w' := by
  have h8 := ht.n8
  have h8' := ht.m8
  have HT := Lib.hid ht
  have HI := Lib.hid hi
  have HNL := Lib.hid hN.lo
  have HNH := Lib.hid hN.hi
  have HX := Lib.hid hX
  have EN := Lib.hid en
  have EM := Lib.hid em
  rw [en] at h8
  rw [em] at h8'
  have f1 := box_cell hF 2 (.slice L n lc) rfl
  have f3 := box_cell hF 3 (.slice H n hc) rfl
  have f4 := box_cell hF 4 (.slice X n xc) rfl
  have f5 := box_cell hF 5 (.slice A n ac) rfl
  clear ht hi hN hX hF en em
  by_cases hvn : v < n
  case pos =>
    by_cases hkn : k < n
    case pos =>
      have HV := Lib.hid (roomV_ii (t := t) (x := x) (by rw [EN.out]; exact hvn) (by rw [EN.out]; exact hkn))
      go_enter Try.func107, Try.ntmps107
      go_wp2
      go_ret
      exact ⟨by rw [HV.out]; rfl, Below.refl _ _⟩
    case neg =>
      obtain ⟨j, hj⟩ : ∃ j, k = n + j := ⟨k - n, by omega⟩
      have hj2 : j < m := by omega
      have HV := Lib.hid (roomV_ij (t := t) (x := x) (j := j) (by rw [EN.out]; exact hvn))
      rw [EN.out] at HV
      obtain ⟨ah, vh, ch, rfl, c1, c2⟩ := matR_cell HNH.out (by rw [EN.out]; exact hvn) (by rw [EM.out]; exact hj2)
      obtain ⟨ax, vx, cx, rfl, c3, c4⟩ := matR_cell HX.out hvn hj2
      have b1 := HT.out.b v j (by rw [EN.out]; exact hvn) (by rw [EM.out]; exact hj2)
      have b2 := HI.out v j (by rw [EN.out]; exact hvn) (by rw [EM.out]; exact hj2)
      rw [EM.out] at c1
      have b1a : 0 ≤ t.hi v j := by omega
      have b2a : 0 ≤ x v j := by omega
      have b1b : t.hi v j ≤ 100000 := by omega
      have b2b : x v j ≤ 100000 := by omega
      have e1 : (k : Int) - (n : Int) = (j : Int) := by omega
      subst hj
      have e2 : ((n + j : Nat) : Int) - (n : Int) = (j : Int) := by omega
      clear b1 b2 e1
      generalize t.hi v j = p at *
      generalize x v j = q at *
      clear HNL HNH HX HI HT
      go_enter Try.func107, Try.ntmps107
      go_wp2
      go_quiet (fail)
      go_wp2
      go_ret
      exact ⟨by rw [HV.out]; rfl, below_drewN (Below.refl _ _) _⟩
  case neg =>
    obtain ⟨j, hj⟩ : ∃ j, v = n + j := ⟨v - n, by omega⟩
    have hj2 : j < m := by omega
    by_cases hkn : k < n
    case pos =>
      have HV := Lib.hid (roomV_ji (t := t) (x := x) (j := j) (by rw [EN.out]; exact hkn))
      rw [EN.out] at HV
      obtain ⟨al, vl, cl, rfl, c1, c2⟩ := matR_cell HNL.out (by rw [EN.out]; exact hkn) (by rw [EM.out]; exact hj2)
      obtain ⟨ax, vx, cx, rfl, c3, c4⟩ := matR_cell HX.out hkn hj2
      have b1 := HT.out.b k j (by rw [EN.out]; exact hkn) (by rw [EM.out]; exact hj2)
      have b2 := HI.out k j (by rw [EN.out]; exact hkn) (by rw [EM.out]; exact hj2)
      rw [EM.out] at c1
      have b1a : 0 ≤ t.lo k j := by omega
      have b2a : 0 ≤ x k j := by omega
      have b1b : t.lo k j ≤ 100000 := by omega
      have b2b : x k j ≤ 100000 := by omega
      subst hj
      have e2 : ((n + j : Nat) : Int) - (n : Int) = (j : Int) := by omega
      clear b1 b2
      generalize t.lo k j = p at *
      generalize x k j = q at *
      clear HNL HNH HX HI HT
      go_enter Try.func107, Try.ntmps107
      go_wp2
      go_quiet (fail)
      go_wp2
      go_ret
      exact ⟨by rw [HV.out]; rfl, below_drewN (Below.refl _ _) _⟩
    case neg =>
      have HV := Lib.hid (roomV_jj (t := t) (x := x) (show t.n ≤ v by rw [EN.out]; omega) (show t.n ≤ k by rw [EN.out]; omega))
      clear hj
      go_enter Try.func107, Try.ntmps107
      go_wp2
      go_ret
      exact ⟨by rw [HV.out]; rfl, Below.refl _ _⟩
end Go.Proofs.Ytcjmapdeopffcaa
