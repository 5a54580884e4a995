/- The insertion into a rising list, of the reference. -/
import Derived.Test.YthphjfelpbfdmaaDivP
namespace Go.Proofs.Ythphjfelpbfdmaa
open Go.RowKit

theorem ints_take {w : World} {A : Option Addr} {n k : Nat} {xs : List Int} (h : Ints w A n xs) (hk : k ≤ n) : Ints w A k (xs.take k) := by
  have hl := h.1
  refine ⟨by rw [List.length_take]; omega, fun hp => ?_⟩
  obtain ⟨ad, e, hc⟩ := h.2 (by omega)
  exact ⟨ad, e, fun j hj => by rw [List.getElem?_take, if_pos hj]; exact hc j (by omega)⟩
theorem ints_drop {w : World} {g n k : Nat} {xs : List Int} (h : Ints w (some ⟨g, 0, none⟩) n xs) (hk : k ≤ n) : Ints w (some ⟨g, k, none⟩) (n - k) (xs.drop k) := by
  have hl := h.1
  refine ⟨by rw [List.length_drop]; omega, fun hp => ?_⟩
  obtain ⟨ad, e, hc⟩ := h.2 (by omega)
  injection e with e
  subst e
  refine ⟨_, rfl, fun j hj => ?_⟩
  have h1 := hc (k + j) (by omega)
  rw [addr_add0] at h1
  have e2 : (⟨g, k, none⟩ : Addr).add j = ⟨g, k + j, none⟩ := by
    unfold Addr.add
    split
    · rename_i h0; rw [h0]; rfl
    · simp
  rw [e2, h1, List.getElem?_drop]
theorem Own.cap {w : World} {B : Nat} {A : Option Addr} {n c : Nat} {xs : List Int} (h : Own w B A n c xs) : n ≤ c ∧ (A = none → c = 0) := by
  rcases h.2 with ⟨hv, h0⟩ | ⟨g, cap, cur, hv, _, _, hc, _⟩
  · injection hv with h1 h2 h3
    exact ⟨by omega, fun _ => h3⟩
  · injection hv with h1 h2 h3
    exact ⟨by omega, fun h => by rw [h] at h1; cases h1⟩

/-- A row of the call's own that holds what the insertion gives. -/
def Puts (w : World) (B : Nat) (xs : List Int) (v : Int) (e : Ending) (w' : World) : Prop :=
  ∃ A' c' ys, e = .returned (.slice A' ys.length c') ∧ Own w' B A' ys.length c' ys ∧ PutR xs v ys ∧ Below w.heap.size w w'

set_option maxRecDepth 100000 in
set_option maxHeartbeats 2000000 in
theorem l1Put_any (A : Option Addr) (B n c : Nat) (v : Int) (xs : List Int) (w : World) (hx : Own w B A n c xs) (hn : n ≤ 1000000) (hB : B ≤ w.heap.size) :
    Calls Try.prog 93 #[.slice A n c, .int .i64 v] w (Puts w B xs v) := by
  obtain ⟨hcap, hcn⟩ := hx.cap
  have hl := Lib.hid hx.len
  have b0 := below_new w (.cells #[] 3)
  have O := own_new w [] 0 rfl (by omega)
  have HI := Lib.hid hx.ints
  have HO := Lib.hid hx
  go_enter Try.func93, Try.ntmps93
  go_wp2
  go_loopw [5] (fun i wr => ∃ k : Nat, k ≤ n ∧ i = .int .i64 k ∧ Hid (∀ t, t < k → xs[t]?.getD 0 < v) ∧ w = wr) (fun i _ => n - (intOf i).toNat)
  case atStart => exact ⟨0, Nat.zero_le _, rfl, Lib.hid fun t ht => absurd ht (by omega), rfl⟩
  case round =>
    obtain ⟨k, hk, rfl, hall, rfl⟩ := hrel
    by_cases hlt : k < n
    · obtain ⟨g, rfl, hgB, _, hc, _⟩ := hx.at_ hlt
      have E := Lib.hid (fun h => all_succ (p := fun t => xs[t]?.getD 0 < v) hall.out h)
      obtain ⟨x, hxe⟩ : ∃ x, xs[k]?.getD 0 = x := ⟨_, rfl⟩
      have HXE := Lib.hid hxe
      rw [hxe] at hc E
      clear hxe hx
      by_cases h1 : x < v
      · have R := Lib.hid (E.out h1)
        go_wp2
        go_roundw
        case rel => exact ⟨k + 1, by omega, by go_num, R, trivial⟩
        case measure => simp [intOf]; omega
      · by_cases h2 : x = v
        · have hq : (x == v) = true := by simp [h2]
          have R := Lib.hid (show PutR xs v xs from ⟨k, by rw [hl.out]; omega, hall.out, .inl ⟨by rw [hl.out]; exact hlt, by rw [HXE.out]; exact h2, rfl⟩⟩)
          clear h2
          go_wp2
          go_ret
          exact ⟨_, _, xs, by rw [hl.out]; rfl, by rw [hl.out]; exact HO.out, R.out, Below.refl _ _⟩
        · have hq : (x == v) = false := by simp [h2]
          have R := Lib.hid (show PutR xs v (xs.take k ++ [v] ++ xs.drop k) from ⟨k, by rw [hl.out]; omega, hall.out, .inr ⟨fun _ => by rw [HXE.out]; omega, rfl⟩⟩)
          have hne : ¬ c = k := by omega
          clear h2
          have HT := Lib.hid (ints_take HI.out hk)
          have HD := Lib.hid (ints_drop HI.out hk)
          go_wp2_with (first
            | (at_builtin; refine wp_app rfl _ _ rfl w.heap.size _ 0 0 [] rfl O _ k _ (xs.take k) rfl (by exact HT.out.below b0) (by omega) (by simp) ?_; intro A1 c1 w1 o1 g1 _; have b1 := below_write b0 g1 (by simp) (fun j hj => by simp [rowOf] at hj; omega); have s1 := b1.size; rw [Nat.zero_add, List.nil_append] at o1; rw [Nat.zero_add]; clear g1 O)
            | (at_builtin; refine wp_app1 (v := v) rfl _ _ rfl w.heap.size A1 k c1 _ rfl o1 _ rfl rfl (by omega) s1 ?_; intro A2 c2 w2 o2 g2 _; have b2 := below_write b1 g2 s1 (fun j hj => (o1.row_ge j hj).1); have s2 := b2.size; clear g2 o1)
            | (at_builtin; refine wp_app rfl _ _ rfl w.heap.size A2 (k + 1) c2 _ rfl o2 _ (n - k) _ (xs.drop k) rfl (by exact HD.out.below b2) (by omega) s2 ?_; intro A3 c3 w3 o3 g3 _; have b3 := Lib.hid (below_write b2 g3 s2 (fun j hj => (o2.row_ge j hj).1)); clear g3 o2))
          have HL := Lib.hid (show (xs.take k ++ [v] ++ xs.drop k).length = k + 1 + (n - k) by simp [hl.out]; omega)
          have HO3 := Lib.hid (o3.mono hB)
          clear o3
          go_wp2
          go_ret
          exact ⟨_, _, _, by rw [HL.out]; rfl, by rw [HL.out]; exact HO3.out, R.out, b3.out⟩
    · obtain rfl : n = k := by omega
      have R := Lib.hid (show PutR xs v (xs.take n ++ [v] ++ xs.drop n) from ⟨n, by rw [hl.out]; omega, hall.out, .inr ⟨fun h => by rw [hl.out] at h; omega, rfl⟩⟩)
      have HT := Lib.hid (ints_take HI.out (Nat.le_refl n))
      clear hx
      go_wp2_with (first
        | (at_builtin; refine wp_app rfl _ _ rfl w.heap.size _ 0 0 [] rfl O _ n _ (xs.take n) rfl (by exact HT.out.below b0) (by omega) (by simp) ?_; intro A1 c1 w1 o1 g1 _; have b1 := below_write b0 g1 (by simp) (fun j hj => by simp [rowOf] at hj; omega); have s1 := b1.size; rw [Nat.zero_add, List.nil_append] at o1; rw [Nat.zero_add]; clear g1 O)
        | (at_builtin; refine wp_app1 (v := v) rfl _ _ rfl w.heap.size A1 n c1 _ rfl o1 _ rfl rfl (by omega) s1 ?_; intro A2 c2 w2 o2 g2 _; have b2 := below_write b1 g2 s1 (fun j hj => (o1.row_ge j hj).1); have s2 := b2.size; clear g2 o1)
        | (at_builtin; refine wp_app rfl _ _ rfl w.heap.size A2 (n + 1) c2 _ rfl o2 _ 0 _ [] rfl (by exact Ints.nil_) (by omega) s2 ?_; intro A3 c3 w3 o3 g3 _; have b3 := Lib.hid (below_write b2 g3 s2 (fun j hj => (o2.row_ge j hj).1)); clear g3 o2))
      all_goals
        have HL := Lib.hid (show (xs.take n ++ [v] ++ xs.drop n).length = n + 1 + 0 by simp [hl.out])
        have HDR := Lib.hid (show xs.take n ++ [v] ++ [] = xs.take n ++ [v] ++ xs.drop n by rw [List.drop_of_length_le (by rw [hl.out]; omega)])
        rw [HDR.out] at o3
        have HO3 := Lib.hid (o3.mono hB)
        clear o3
        go_wp2
        go_ret
        exact ⟨_, _, _, by rw [HL.out]; rfl, by rw [HL.out]; exact HO3.out, R.out, b3.out⟩
end Go.Proofs.Ythphjfelpbfdmaa
