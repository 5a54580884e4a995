/- Slices of variables (a name and a count of levels): what they read as, and the contract of the laws' size helper. -/
import Derived.Test.YtgeilnkglbcmeaaBox
namespace Go.Proofs.Ytgeilnkglbcmeaa
open Go.RowKit

def vN (vs : List (ByteArray × Int)) (j : Nat) : ByteArray := (vs[j]?.getD (⟨#[]⟩, 0)).1
def vL (vs : List (ByteArray × Int)) (j : Nat) : Int := (vs[j]?.getD (⟨#[]⟩, 0)).2
/-- A slice of variables that reads as a list. -/
def VarsR (w : World) (A : Option Addr) (n : Nat) (vs : List (ByteArray × Int)) : Prop :=
  vs.length = n ∧ (0 < n → ∃ ad, A = some ad ∧ ∀ j, j < n → w.cell? (ad.add (j * 2)) = some (.string (vN vs j)) ∧ w.cell? ⟨(ad.add (j * 2)).block, (ad.add (j * 2)).off + 1, none⟩ = some (.int .i64 (vL vs j)))

section
variable {w w' : World} {A : Option Addr} {n : Nat} {vs : List (ByteArray × Int)}
theorem VarsR.at_ {k : Nat} (h : VarsR w A n vs) (hk : k < n) : ∃ ad, A = some ad ∧ w.cell? (ad.add (k * 2)) = some (.string (vN vs k)) ∧ w.cell? ⟨(ad.add (k * 2)).block, (ad.add (k * 2)).off + 1, none⟩ = some (.int .i64 (vL vs k)) := by
  obtain ⟨ad, e, hc⟩ := h.2 (by omega)
  exact ⟨ad, e, hc k hk⟩
theorem VarsR.nil_ : VarsR w A 0 [] := ⟨rfl, fun h => absurd h (by omega)⟩
theorem VarsR.below (h : VarsR w A n vs) (hb : Below w.heap.size w w') : VarsR w' A n vs :=
  ⟨h.1, fun hn => by
    obtain ⟨ad, e, hc⟩ := h.2 hn
    exact ⟨ad, e, fun j hj => ⟨(hb.cell (block_lt_of_cell (hc j hj).1)).trans (hc j hj).1, (hb.cell (block_lt_of_cell (hc j hj).2)).trans (hc j hj).2⟩⟩⟩
theorem VarsR.drewN (h : VarsR w A n vs) (q : Nat) : VarsR (w.drewN q) A n vs := h
end

/-- What is left of a room behind a name. -/
def szv (s : ByteArray) (k : Int) : Int := if k - s.size < 0 then -1 else k - s.size

set_option maxHeartbeats 400000 in
theorem szVariable_any (s : ByteArray) (x k : Int) (w : World) (hs : s.size ≤ 9223372036854775807) (h0 : 0 ≤ k) (h1 : k ≤ 1099511627776) :
    Calls Try.prog 50 #[.agg #[.string s, .int .i64 x], .int .i64 k] w fun e w' => e = .returned (.int .i64 (szv s k)) ∧ Below w.heap.size w w' := by
  go_enter Try.func50, Try.ntmps50
  by_cases hlt : k - s.size < 0
  · have R := Lib.hid (show (-1 : Int) = szv s k by unfold szv; rw [if_pos hlt])
    go_wp2
    go_ret
    exact ⟨ret_int R.out, (Below.refl _ _).alloc (Nat.le_refl _) _⟩
  · have R := Lib.hid (show k - s.size = szv s k by unfold szv; rw [if_neg hlt])
    go_wp2
    go_ret
    exact ⟨ret_int R.out, (Below.refl _ _).alloc (Nat.le_refl _) _⟩
theorem szv_in (s : ByteArray) (k : Int) (h0 : 0 ≤ k) : (-1 ≤ szv s k ∧ szv s k ≤ k) ∧ (0 ≤ szv s k → (s.size : Int) ≤ k) := by
  unfold szv
  split <;> omega

set_option maxHeartbeats 400000 in
theorem szVariableS_any (A : Option Addr) (n c : Nat) (k : Int) (vs : List (ByteArray × Int)) (w : World) (hx : VarsR w A n vs) (hs : ∀ j, j < n → (vN vs j).size ≤ 9223372036854775807) (hn : n ≤ 9223372036854775807) (h0 : 0 ≤ k) (h1 : k ≤ 1099511627776) :
    Calls Try.prog 7 #[.slice A n c, .int .i64 k] w fun e w' => (∃ r, e = .returned (.int .i64 r) ∧ -1 ≤ r ∧ r ≤ k ∧ (0 ≤ r → n + r ≤ k ∧ ∀ j, j < n → ((vN vs j).size : Int) ≤ k)) ∧ Below w.heap.size w w' := by
  go_enter Try.func7, Try.ntmps7
  by_cases hlt : k - n < 0
  · go_wp2
    go_ret
    exact ⟨⟨-1, rfl, by omega, by omega, fun h => absurd h (by omega)⟩, Below.refl _ _⟩
  go_wp2
  go_loopw [1, 5] (fun a i wr => ∃ (j : Nat) (r : Int), j ≤ n ∧ i = .int .i64 j ∧ a = .int .i64 r ∧ 0 ≤ r ∧ r ≤ k - n ∧ Hid (∀ t, t < j → ((vN vs t).size : Int) ≤ k) ∧ Below w.heap.size w wr) (fun _ i _ => n - (intOf i).toNat)
  case atStart => exact ⟨0, k - n, Nat.zero_le _, rfl, by go_num, by omega, by omega, Lib.hid fun t ht => absurd ht (by omega), Below.refl _ _⟩
  case round =>
    obtain ⟨j, r, hj, rfl, rfl, hr0, hr1, hall, hbw⟩ := hrel
    by_cases hjn : j < n
    · obtain ⟨ad, rfl, hc, hc'⟩ := (hx.below hbw).at_ hjn
      have hsj := hs j hjn
      have Q := Lib.hid (fun (x : Int) (hx : (x : Int) ≤ k) (e : ((vN vs j).size : Int) ≤ x) => (show ∀ t, t < j + 1 → ((vN vs t).size : Int) ≤ k from fun t ht => by
        rcases Nat.lt_or_ge t j with h | h
        · exact hall.out t h
        · obtain rfl : t = j := by omega
          omega))
      clear hx hs hall
      obtain ⟨s, hse⟩ : ∃ s, vN vs j = s := ⟨_, rfl⟩
      obtain ⟨x, hxe⟩ : ∃ x, vL vs j = x := ⟨_, rfl⟩
      rw [hse] at hc hsj
      rw [hxe] at hc'
      have F := szv_in s r hr0
      by_cases hneg : szv s r < 0
      · go_wp2_with (go_at_call 50; refine (szVariable_any s x r _ hsj hr0 (by omega)).mono ?_; rintro e w2 ⟨rfl, hb2⟩; have hb3 := Lib.hid (hbw.trans (hb2.mono (by exact hbw.size))))
        go_ret
        exact ⟨⟨-1, rfl, by omega, by omega, fun h => absurd h (by omega)⟩, hb3.out⟩
      · go_wp2_with (go_at_call 50; refine (szVariable_any s x r _ hsj hr0 (by omega)).mono ?_; rintro e w2 ⟨rfl, hb2⟩; have hb3 := Lib.hid (hbw.trans (hb2.mono (by exact hbw.size))))
        go_roundw
        case rel => exact ⟨j + 1, szv s r, by omega, by go_num, rfl, by omega, by omega, Lib.hid (Q.out r (by omega) (by rw [hse]; exact F.2 (by omega))), hb3.out⟩
        case measure => simp [intOf]; omega
    · obtain rfl : j = n := by omega
      go_wp2
      go_ret
      exact ⟨⟨r, rfl, by omega, by omega, fun _ => ⟨by omega, hall.out⟩⟩, hbw⟩
end Go.Proofs.Ytgeilnkglbcmeaa
