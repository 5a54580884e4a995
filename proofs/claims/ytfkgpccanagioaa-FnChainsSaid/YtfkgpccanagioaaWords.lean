/- Strings as lists of bytes; HashWord and DerivedSeed, of the reference and of the program, and their laws' walks. -/
import Derived.Test.YtfkgpccanagioaaHashList
import Derived.Test.YtfkgpccanagioaaAppend
import Derived.Test.YtfkgpccanagioaaStreamB
namespace Go.Proofs.Ytfkgpccanagioaa
open Go.RowKit

/-- The bytes of a string. -/
def byteAt (s : ByteArray) (i : Nat) : Int := if h : i < s.size then ((s[i]'h).toNat : Int) else 0
theorem byteAt_lt {s : ByteArray} {i : Nat} (h : i < s.size) : ((s[i]'h).toNat : Int) = byteAt s i := by simp [byteAt, h]
def byteL (s : ByteArray) : List Int := tabl s.size (byteAt s)

set_option maxHeartbeats 400000 in
theorem bytesOf_any (s : ByteArray) (w : World) (hs : s.size ≤ 1099511627776) :
    Calls Try.prog 52 #[.string s] w fun e w' => e = .returned (.slice (some ⟨w.heap.size, 0, none⟩) s.size s.size) ∧ Own w' w.heap.size (some ⟨w.heap.size, 0, none⟩) s.size s.size (byteL s) ∧ Below w.heap.size w w' := by
  obtain ⟨i0, hi, hz0, hz1, hz2⟩ := info_parts Try.infoInt
  have hbl := Lib.hid (show (byteL s).length = s.size from tabl_len _ _)
  have hba : Hid (∀ k, (h : k < s.size) → (byteL s)[k]?.getD 0 = ((s[k]'h).toNat : Int)) := Lib.hid fun k h => by rw [byteAt_lt h]; exact tabl_at h
  generalize byteL s = xs at *
  go_enter Try.func52, Try.ntmps52
  go_wp2_with (at_make; refine wpList_make_full _ rfl _ _ 30 rfl w.heap.size 3 i0 _ 1 Try.underlying30 hi hz0 hz1 .i64 .i64 _ _ s.size rfl rfl rfl rfl (by rw [hz2]; omega) (by unfold maxLen; omega) (Nat.le_refl _) ?_; intro w1 hown hg)
  rw [map_replicate0] at hown
  have hO : Own w1 w.heap.size (some ⟨w.heap.size, 0, none⟩) s.size s.size (List.replicate s.size 0) := hown
  have hb1 : Below w.heap.size w w1 := (Below.refl _ _).grown hg (Nat.le_refl _) (by simp)
  clear hown hg hi hz0 hz1 hz2
  go_loopw [10] (fun i wr => ∃ (k : Nat) (ys : List Int), k ≤ s.size ∧ i = .int .i64 k ∧ Agree xs ys s.size k ∧ Own wr w.heap.size (some ⟨w.heap.size, 0, none⟩) s.size s.size ys ∧ Below w.heap.size w wr) (fun i _ => s.size - (intOf i).toNat)
  case atStart => exact ⟨0, _, Nat.zero_le _, rfl, Agree.start _ _, hO, hb1⟩
  case round =>
    clear hO hb1
    obtain ⟨k, ys, hk, rfl, hag, hown, hbw⟩ := hrel
    by_cases hlt : k < s.size
    · obtain ⟨g, hge, _, hgl, hcg, hfg⟩ := hown.at_ hlt
      simp only [Option.some.injEq, Addr.mk.injEq, and_true] at hge
      subst hge
      have R1 := Lib.hid (hag.step hbl.out hlt)
      have R2 := Lib.hid (hown.set (k := k) (x := xs[k]?.getD 0))
      have R3 := Lib.hid (hbw.setCell (p := ⟨w.heap.size, k, none⟩) (Nat.le_refl _) (.int .i64 (xs[k]?.getD 0)))
      rw [hba.out k hlt] at R1 R2 R3
      have hbd : (s[k].toNat : Int) < 256 := by have := s[k].toNat_lt; omega
      clear hag hown hbw hgl
      go_wp2
      go_roundw
      case rel => exact ⟨k + 1, _, by omega, by go_num, R1.out, R2.out, R3.out⟩
      case measure => simp [intOf]; omega
    · have R := hag.fin hbl.out (by omega)
      subst R
      clear hag
      go_wp2
      go_ret
      exact ⟨rfl, hown, hbw⟩

set_option maxHeartbeats 400000 in
theorem hBytes_any (s : ByteArray) (w : World) (hs : s.size ≤ 1099511627776) :
    Calls Try.prog 53 #[.string s] w fun e w' => ∃ A c, e = .returned (.slice A s.size c) ∧ Own w' w.heap.size A s.size c (byteL s) ∧ Below w.heap.size w w' := by
  go_enter Try.func53, Try.ntmps53
  go_wp2
  go_loopw [3, 4] (fun v i wr => ∃ (k : Nat) (A : Option Addr) (c : Nat), k ≤ s.size ∧ i = .int .i64 k ∧ v = .slice A k c ∧ Own wr w.heap.size A k c (tabl k (byteAt s)) ∧ Below w.heap.size w wr) (fun _ i _ => s.size - (intOf i).toNat)
  case atStart => exact ⟨0, none, 0, Nat.zero_le _, rfl, rfl, Own.nil_, Below.refl _ _⟩
  case round =>
    obtain ⟨k, A, c, hk, rfl, rfl, hown, hbw⟩ := hrel
    by_cases hlt : k < s.size
    · have hxe := byteAt_lt hlt
      have E := Lib.hid (tabl_succ k (byteAt s))
      obtain ⟨x, hx⟩ : ∃ x, byteAt s k = x := ⟨_, rfl⟩
      rw [hx] at E hxe
      have hxe' := Lib.hid hxe
      have hbd : (s[k].toNat : Int) < 256 := by have := s[k].toNat_lt; omega
      clear hxe hx
      have hsz := hbw.size
      go_wp2_with (at_builtin; go_loud (rw [hxe'.out]); go_loud (refine wp_app1 rfl _ _ rfl w.heap.size A k c _ rfl hown _ rfl rfl (by omega) hsz ?_); intro A2 c2 w2 hown2 hg2 _)
      have hb2 := below_write hbw hg2 hsz (fun k hk => (hown.row_ge k hk).1)
      rw [← E.out] at hown2
      clear hown hbw hg2
      go_wp2
      go_roundw
      case rel => exact ⟨k + 1, A2, c2, by omega, by go_num, rfl, hown2, hb2⟩
      case measure => simp [intOf]; omega
    · obtain rfl : s.size = k := by omega
      go_wp2
      go_ret
      exact ⟨A, c, rfl, hown, hbw⟩

theorem bytesOf_ex (s : ByteArray) (w : World) (hs : s.size ≤ 1099511627776) :
    Calls Try.prog 52 #[.string s] w fun e w' => ∃ A c, e = .returned (.slice A s.size c) ∧ Own w' w.heap.size A s.size c (byteL s) ∧ Below w.heap.size w w' :=
  (bytesOf_any s w hs).mono fun _ _ ⟨h1, h2, h3⟩ => ⟨_, _, h1, h2, h3⟩
theorem byteL_len (s : ByteArray) : (byteL s).length = s.size := tabl_len _ _

set_option maxHeartbeats 400000 in
theorem specHashWord_any (s : ByteArray) (w : World) (hs : s.size ≤ 1099511627776) :
    Calls Try.prog 30 #[.string s] w fun e w' => e = .returned (.tuple #[.int .i64 (hashV (byteL s)), .bool (hashB (byteL s))]) ∧ Below w.heap.size w w' := by
  go_enter Try.func30, Try.ntmps30
  go_wp2_with fail
  refine (hBytes_any _ _ hs).mono ?_
  rintro e w1 ⟨A, c, rfl, hown, hb⟩
  go_wp2_with fail
  refine (specHashList_any _ _ _ _ _ hown.ints).mono ?_
  rintro e w' ⟨rfl, rfl⟩
  go_wp2
  go_ret2
  exact ⟨rfl, hb⟩

set_option maxHeartbeats 400000 in
theorem implHashWord_any (s : ByteArray) (w : World) (_hs : s.size ≤ 1099511627776) :
    Calls Try.prog 29 #[.string s] w fun e w' => e = .returned (.tuple #[.int .i64 (hashV (byteL s)), .bool (hashB (byteL s))]) ∧ Below w.heap.size w w' := by
  by_cases h : s.size ≤ 400
  · have R := Lib.hid (hash_yes (xs := byteL s) (by rw [byteL_len]; exact h))
    go_enter Try.func29, Try.ntmps29
    go_wp2_with fail
    refine (bytesOf_any _ _ (by omega)).mono ?_
    rintro e w1 ⟨rfl, hown, hb⟩
    go_wp2_with fail
    refine (digest_any _ _ _ _ _ hown.ints (by omega)).mono ?_
    rintro e w' ⟨rfl, rfl⟩
    go_wp2
    go_ret2
    exact ⟨ret_two R.out.1.symm R.out.2.symm, hb⟩
  · have R := Lib.hid (hash_no (xs := byteL s) (by rw [byteL_len]; exact h))
    go_enter Try.func29, Try.ntmps29
    go_wp2
    go_ret2
    exact ⟨ret_two R.out.1.symm R.out.2.symm, Below.refl _ _⟩

/-- What DerivedSeed returns. -/
def deriB (a : Int) (s : ByteArray) : Bool := inR a 0 4611686016279904236 && decide (s.size ≤ 40)
def deriV (a : Int) (s : ByteArray) : Int := if deriB a s = true then dig ([3, a] ++ byteL s) else 0
theorem deri_1 {a : Int} {s : ByteArray} (h : inR a 0 4611686016279904236 = false) : deriV a s = 0 ∧ deriB a s = false := by
  have hb : deriB a s = false := by simp [deriB, h]
  exact ⟨by unfold deriV; rw [if_neg (by simp [hb])], hb⟩
theorem deri_2 {a : Int} {s : ByteArray} (h : ¬ s.size ≤ 40) : deriV a s = 0 ∧ deriB a s = false := by
  have hb : deriB a s = false := by unfold deriB; rw [decide_eq_false h, Bool.and_false]
  exact ⟨by unfold deriV; rw [if_neg (by simp [hb])], hb⟩
theorem deri_3 {a : Int} {s : ByteArray} (h : inR a 0 4611686016279904236 = true) (h2 : s.size ≤ 40) : deriV a s = dig ([3, a] ++ byteL s) ∧ deriB a s = true := by
  have hb : deriB a s = true := by unfold deriB; rw [decide_eq_true h2, h]; rfl
  exact ⟨by unfold deriV; rw [if_pos hb], hb⟩

set_option maxHeartbeats 400000 in
theorem hDerived_any (a : Int) (s : ByteArray) (w : World) (hs : s.size ≤ 40) :
    Calls Try.prog 54 #[.int .i64 a, .string s] w fun e w' => e = .returned (.int .i64 (dig ([3, a] ++ byteL s))) ∧ Below w.heap.size w w' := by
  go_enter Try.func54, Try.ntmps54
  go_wp2_with fail
  have ho := own_new w [3, a] 2 rfl (by omega)
  refine (hBytes_any _ _ (by omega)).mono ?_
  rintro e w1 ⟨A, c, rfl, hown, hb⟩
  have ho1 := ho.below hb
  have hb1 := (below_new w _).trans (hb.mono (by simp))
  have hsz := hb1.size
  clear ho hb
  go_wp2_with (at_builtin; refine wp_app rfl _ _ rfl w.heap.size _ 2 2 [3, a] rfl ho1 A s.size c (byteL s) rfl hown.ints (by omega) hsz ?_; intro A2 c2 w2 hown2 hg2 _)
  have hb2 := below_write hb1 hg2 hsz (fun k hk => (ho1.row_ge k hk).1)
  go_wp2_with fail
  refine (hInts_any _ _ _ _ _ hown2.ints (by omega)).mono ?_
  rintro e w' ⟨rfl, rfl⟩
  go_wp2
  go_ret
  exact ⟨rfl, hb2⟩

set_option maxHeartbeats 400000 in
theorem specDerivedSeed_any (a : Int) (s : ByteArray) (w : World) :
    Calls Try.prog 33 #[.int .i64 a, .string s] w fun e w' => e = .returned (.tuple #[.int .i64 (deriV a s), .bool (deriB a s)]) ∧ Below w.heap.size w w' := by
  go_enter Try.func33, Try.ntmps33
  go_wp2_with fail
  refine (hDigest_any _ _ _ [a] _ (ints_one rfl) (by omega)).mono ?_
  rintro e w' ⟨rfl, rfl⟩
  rw [allR_one]
  cases hA : inR a 0 4611686016279904236
  · have R := Lib.hid (deri_1 (s := s) hA)
    clear hA
    go_wp2
    go_ret2
    exact ⟨ret_two R.out.1.symm R.out.2.symm, below_new _ _⟩
  · by_cases hl : s.size ≤ 40
    · have R := Lib.hid (deri_3 hA hl)
      clear hA
      go_wp2_with fail
      refine (hDerived_any _ _ _ hl).mono ?_
      rintro e w1 ⟨rfl, hb⟩
      go_wp2
      go_ret2
      exact ⟨ret_two R.out.1.symm R.out.2.symm, (below_new _ _).trans (hb.mono (by simp))⟩
    · have R := Lib.hid (deri_2 (a := a) hl)
      clear hA
      go_wp2
      go_ret2
      exact ⟨ret_two R.out.1.symm R.out.2.symm, below_new _ _⟩

set_option maxHeartbeats 400000 in
theorem implDerivedSeed_any (a : Int) (s : ByteArray) (w : World) :
    Calls Try.prog 32 #[.int .i64 a, .string s] w fun e w' => e = .returned (.tuple #[.int .i64 (deriV a s), .bool (deriB a s)]) ∧ Below w.heap.size w w' := by
  go_enter Try.func32, Try.ntmps32
  go_wp2_with fail
  refine (isSeed_any _ _).mono ?_
  rintro e w' ⟨rfl, rfl⟩
  cases hA : inR a 0 4611686016279904236
  · have R := Lib.hid (deri_1 (s := s) hA)
    clear hA
    go_wp2
    go_ret2
    exact ⟨ret_two R.out.1.symm R.out.2.symm, Below.refl _ _⟩
  · by_cases hl : s.size ≤ 40
    · have R := Lib.hid (deri_3 hA hl)
      clear hA
      go_wp2_with fail
      have ho := own_new w [3, a] 2 rfl (by omega)
      refine (bytesOf_ex _ _ (by omega)).mono ?_
      rintro e w1 ⟨A, c, rfl, hown, hb⟩
      have ho1 := ho.below hb
      have hb1 := (below_new w _).trans (hb.mono (by simp))
      have hsz := hb1.size
      clear ho hb
      go_wp2_with (at_builtin; refine wp_app rfl _ _ rfl w.heap.size _ 2 2 [3, a] rfl ho1 A s.size c (byteL s) rfl hown.ints (by omega) hsz ?_; intro A2 c2 w2 hown2 hg2 _)
      have hb2 := below_write hb1 hg2 hsz (fun k hk => (ho1.row_ge k hk).1)
      go_wp2_with fail
      refine (digest_any _ _ _ _ _ hown2.ints (by omega)).mono ?_
      rintro e w' ⟨rfl, rfl⟩
      go_wp2
      go_ret2
      exact ⟨ret_two R.out.1.symm R.out.2.symm, hb2⟩
    · have R := Lib.hid (deri_2 (a := a) hl)
      clear hA
      go_wp2
      go_ret2
      exact ⟨ret_two R.out.1.symm R.out.2.symm, Below.refl _ _⟩
end Go.Proofs.Ytfkgpccanagioaa
