/- Noise added to a list: the program's function that takes the closure of Gaussian noise. -/
import Derived.Test.YtfkdmddfadkjoaaNoiseW
namespace Go.Proofs.Ytfkdmddfadkjoaa
open Go.RowKit

set_option maxRecDepth 100000 in
set_option maxHeartbeats 4000000 in
theorem withNoise_gauss (gc : Nat) (o : Obj) (s : Int) (f : Int → Option (Int × Int)) (A : Option Addr) (n c : Nat) (xs : List Int) (w : World) (hx : Ints w A n xs) (hn : n ≤ 100) (hr : allN xs = true) (ho : w.heap[gc]? = some o)
    (hf : ∀ a v b, f a = some (v, b) → 0 ≤ a → a ≤ 1000000 → -1000000 ≤ v ∧ v ≤ 1000000 ∧ 0 ≤ b ∧ b ≤ 1000000)
    (hN : ∀ (g : Nat) (a : Int) (w' : World), StrAt w' g s a → 0 ≤ a → a ≤ 1000000 → w'.heap[gc]? = some o → Calls Try.prog 94 #[.pointer (some ⟨g, 0, none⟩), .pointer (some ⟨gc, 0, none⟩)] w' (SPost (Value.int .i64) g s (f a) w')) :
    Calls Try.prog 84 #[.slice A n c, .int .i64 s, .func (.func 94) #[] #[.pointer (some ⟨gc, 0, none⟩)]] w (LPost (noiM f xs) w) := by
  have hl := Lib.hid hx.1
  have HR := Lib.hid hr
  have HF := Lib.hid hf
  have HN := Lib.hid hN
  have M1 := Lib.hid (noiM_1 (f := f) (xs := xs))
  have M2 := Lib.hid (fun l => noiM_2 (f := f) (xs := xs) (l := l))
  have M3 := Lib.hid (fun l => noiM_3 (f := f) (xs := xs) (l := l))
  have HT : Hid (noiF f xs [] 0 = noiF f (xs.drop 0) [] 0) := Lib.hid rfl
  generalize noiM f xs = R at *
  generalize noiF f xs [] 0 = T at *
  have hgc := lt_of_block ho
  have hs0 := box_new w #[.int .i64 s, .int .i64 0] 38
  have b0 := below_new w (.cells #[.int .i64 s, .int .i64 0] 38)
  replace ho := box_below ho b0
  obtain ⟨i0, hi, hz0, hz1, hz2⟩ := info_parts Try.infoInt
  clear hf hN hr
  go_enter Try.func84, Try.ntmps84
  go_wp2_with (at_make; refine wpList_make_full _ rfl _ _ 22 rfl (w.heap.size + 1) 3 i0 _ 1 Try.underlying22 hi hz0 hz1 .i64 .i64 _ _ n rfl rfl rfl rfl (by rw [hz2]; omega) (by unfold maxLen; omega) (by simp) ?_; intro w2 hown hg)
  rw [map_replicate0, show (w.alloc (.cells #[.int .i64 s, .int .i64 0] 38)).heap.size = w.heap.size + 1 by simp] at hown
  have b1 := b0.grown hg (by simp) (by simp)
  have b2 : Below (w.heap.size + 1) (w.alloc (.cells #[.int .i64 s, .int .i64 0] 38)) w2 := (Below.refl _ _).grown hg (by simp) (by simp)
  have hO : OwnI w2 (w.heap.size + 1) (w.heap.size + 2) (some ⟨w.heap.size + 1, 0, none⟩) n n ([] ++ List.replicate (n - 0) 0) := ⟨hown, fun k hk => by simp [rowOf] at hk; omega, by omega⟩
  have hs2 : StrAt w2 w.heap.size s 0 := (b2.block _ (by omega)).trans hs0
  replace ho := (b2.block _ (by omega)).trans ho
  have b3 : Below w.heap.size w w2 := b1
  clear hown hg hi hz0 hz1 hz2 b0 b1 b2 hs0
  go_loopw [21] (fun i wr => ∃ (k : Nat) (acc : List Int) (a : Int), k ≤ n ∧ i = .int .i64 k ∧ acc.length = k ∧ 0 ≤ a ∧ a ≤ 1000000 ∧ Hid (T = noiF f (xs.drop k) acc a) ∧ OwnI wr (w.heap.size + 1) (w.heap.size + 2) (some ⟨w.heap.size + 1, 0, none⟩) n n (acc ++ List.replicate (n - k) 0) ∧ StrAt wr w.heap.size s a ∧ wr.heap[gc]? = some o ∧ Below w.heap.size w wr) (fun i _ => n - (intOf i).toNat)
  case atStart => exact ⟨0, [], 0, Nat.zero_le _, rfl, rfl, by omega, by omega, HT, hO, hs2, ho, b3⟩
  case round =>
    clear hO hs2 ho b3
    obtain ⟨k, acc, a, hk, rfl, hacc, ha0, ha1, hT, hO, hs, ho, hb⟩ := hrel
    have hsz := hb.size
    by_cases hlt : k < n
    · obtain ⟨ad, rfl, hc⟩ := (hx.below hb).at_ hlt
      have hr := allN_at HR.out hl.out hlt
      have hT2 := Lib.hid (hT.out.trans (congrArg (fun l => noiF f l acc a) (drop_at hl.out hlt)))
      obtain ⟨x, hxe⟩ : ∃ x, xs[k]?.getD 0 = x := ⟨_, rfl⟩
      rw [hxe] at hc hr hT2
      clear hxe hT
      have HACC := Lib.hid hacc
      clear hacc
      go_wp2_with fail
      refine (HN.out _ _ _ hs ha0 ha1 ho).mono ?_
      rintro e w3 ⟨hyes, hno, hch⟩
      replace ho := box_chg ho hch (.inl (by omega))
      replace hO := hO.chg hch (.inr (by omega))
      replace hb := hch.below hb (by omega) hsz
      clear hch hs hx
      cases hM : f a with
      | none =>
        obtain ⟨z, a2, rfl, _⟩ := hno hM
        have E := Lib.hid (M1.out (hT2.out.trans (noiF_none hM)))
        clear hyes hno hM
        go_wp2
        go_ret2
        exact LPost.no E.out hb
      | some r =>
        obtain ⟨v, a2⟩ := r
        obtain ⟨rfl, hs2⟩ := hyes v a2 hM
        have hv := HF.out _ _ _ hM ha0 ha1
        have hv0 := hv.1
        have hv1 := hv.2.1
        have hv2 := hv.2.2.1
        have hv3 := hv.2.2.2
        have hr0 := hr.1
        have hr1 := hr.2
        have E := Lib.hid (hT2.out.trans (noiF_some hM))
        clear hyes hno hM hv hr
        obtain ⟨gg, hge, _, hgl, hcg, hfg⟩ := hO.own.at_ hlt
        simp only [Option.some.injEq, Addr.mk.injEq, and_true] at hge
        subst hge
        have HO2 := Lib.hid (show OwnI (w3.setCell ⟨w.heap.size + 1, k, none⟩ (.int .i64 (x + v))) (w.heap.size + 1) (w.heap.size + 2) (some ⟨w.heap.size + 1, 0, none⟩) n n ((acc ++ [x + v]) ++ List.replicate (n - (k + 1)) 0) by rw [← set_next HACC.out hlt]; exact ⟨hO.own.set, hO.top, hO.small⟩)
        have HS2 := Lib.hid (hs2.far (p := ⟨w.heap.size + 1, k, none⟩) (by simp) (.int .i64 (x + v)))
        have HO3 := Lib.hid (box_far ho (p := ⟨w.heap.size + 1, k, none⟩) (by simp; omega) (.int .i64 (x + v)))
        have HB2 := Lib.hid (hb.setCell (p := ⟨w.heap.size + 1, k, none⟩) (by simp) (.int .i64 (x + v)))
        clear hO hs2 ho hb hgl
        go_wp2
        go_roundw
        case rel => exact ⟨k + 1, acc ++ [x + v], a2, by omega, by go_num, by simp [HACC.out], hv2, hv3, E, HO2.out, HS2.out, HO3.out, HB2.out⟩
        case measure => simp [intOf]; omega
    · have hkn : n = k := by omega
      subst hkn
      have hO2 : OwnI wr (w.heap.size + 1) (w.heap.size + 2) (some ⟨w.heap.size + 1, 0, none⟩) n n acc := by simpa using hO
      have E : Hid (T = some acc) := Lib.hid (by rw [hT.out, List.drop_eq_nil_of_le (by rw [hl.out]; exact Nat.le_refl _)]; rfl)
      have N1 := Lib.hid (M2.out acc E.out)
      have N2 := Lib.hid (M3.out acc E.out)
      have HL := Lib.hid hacc.symm
      have HNB := Lib.hid (fun h => numB_2 (xs := acc) (m := (n : Int)) h)
      have HNY := Lib.hid (fun h => numB_3 (xs := acc) (m := (n : Int)) (by rw [hacc]; exact Int.le_refl _) h)
      clear hO hs ho hx hacc hT
      go_wp2_with fail
      refine (areNumbers_any _ _ _ acc _ _ hO2.ints (by omega)).mono ?_
      rintro e w3 ⟨rfl, rfl⟩
      cases hA : allN acc
      · rw [HNB.out hA]
        have R1 := Lib.hid (N1.out hA)
        clear N1 N2 HNB HNY hA
        go_wp2
        go_ret2
        exact LPost.no R1.out hb
      · rw [HNY.out hA]
        have R1 := Lib.hid (N2.out hA)
        have HO := Lib.hid (OwnI.fit hO2 (by omega) : OwnI wr w.heap.size wr.heap.size _ _ _ _)
        clear N1 N2 HNB HNY hA hO2
        go_wp2
        go_ret2
        exact LPost.yes R1.out HL.out HO.out hb
end Go.Proofs.Ytfkdmddfadkjoaa
