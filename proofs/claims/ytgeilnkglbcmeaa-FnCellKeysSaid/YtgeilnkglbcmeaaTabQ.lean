/- Noise tables: counts perturbed, by the reference. -/
import Derived.Test.YtgeilnkglbcmeaaTabP
import Derived.Deep.AppendLies
namespace Go.Proofs.Ytgeilnkglbcmeaa
open Go.RowKit

/-- 'append(s, v)' of one int at a step of a region that draws its order. -/
theorem step_app1 {wr : World} {v : Int} {ops : Array Oper} {o : Oper} {a : Act} {K : Act → World → Prop} {Q : Exit → Act → World → Prop} {E : Prop} (hgd : o.guard = none) (s x : Operand)
    (ho : o.op = .call { callee := .builtin .append, args := #[s, x], argTypes := #[27, 27] })
    (B : Nat) (A : Option Addr) (n c : Nat) (xs : List Int) (hs : a.eval s = .slice A n c) (hown : Own wr B A n c xs)
    (g : Nat) (hx : a.eval x = .slice (some ⟨g, 0, none⟩) 1 1) (hg : g = wr.heap.size) (hsz : n + 1 ≤ 1099511627776) (hB : B ≤ wr.heap.size)
    (h : ∀ A2 c2 w', Own w' B A2 (n + 1) c2 (xs ++ [v]) → wr.grownBy w' (rowOf A) → (rowOf A2 = rowOf A ∨ rowOf A2 = some (wr.heap.size + 1)) → K (a.put o.dst (.slice A2 (n + 1) c2)) w') :
    if Region.wanted o (yielded ops a.tmps) = true then Oper.wp Try.prog o a (wr.alloc (.cells #[.int .i64 v] 3)) K Q else E := by
  obtain ⟨i0, hi, hz0, hz1, hz2⟩ := info_parts Try.infoInt
  have hw : Region.wanted o (yielded ops a.tmps) = true := by simp [Region.wanted, hgd]
  rw [if_pos hw]
  subst hg
  have hownA : Own (wr.alloc (.cells #[.int .i64 v] 3)) B A n c xs := hown.below ((Below.refl _ _).alloc (Nat.le_refl _) _)
  refine wp_append_lies (P := Try.prog) _ s x 27 ho B 3 i0 _ 1 8 Try.underlying27 hi hz0 hz1 hz2 rfl (by omega) (.slice A n c) n (xs.map (Value.int .i64)) hs hownA ⟨wr.heap.size, 0, none⟩ 1 1 [.int .i64 v] hx rfl (World.news_of_block (cs := #[.int .i64 v]) (t := 3) (fr := (0, 0)) (heap_alloc_new wr _)) (by simp [Value.oneCell']) (by omega) (by unfold maxLen; omega) (by omega) (by simp; omega) (wr.heap.size + 1) (by simp) ?_
  intro g2 cap w' h1 h2 h3 _
  rw [ownBlock_row] at h2 h3
  refine h (some ⟨g2, 0, none⟩) cap w' (by simpa [Own] using h1) (grownBy_trans (World.grownBy_alloc wr _ _) h2) ?_
  rcases h3 with h3 | h3
  · exact .inl h3.symm
  · exact .inr (by rw [h3]; rfl)

set_option maxRecDepth 100000 in
set_option maxHeartbeats 2000000 in
theorem yPerturb_any (A C D : Option Addr) (n c m d d2 : Nat) (S : Nat → List Int) (cs ks : List Int) (w : World) (hs : IntsS w A n S) (ht : nzTab n S = true) (hc : Ints w C m cs) (hk : Ints w D m ks) (hm : m ≤ 1000) (hcr : ∀ j, j < m → 0 ≤ cs[j]?.getD 0 ∧ cs[j]?.getD 0 ≤ 1000000) (hkr : allR ks 0 65535 = true) :
    Calls Try.prog 57 #[.agg #[.slice A n c], .slice C m d, .slice D m d2] w fun e w' => ∃ A' c', e = .returned (.slice A' m c') ∧ OwnI w' w.heap.size w'.heap.size A' m c' (tabl m (nzP n S cs ks)) ∧ Below w.heap.size w w' := by
  obtain ⟨h1, h2⟩ := nzTab_of ht
  have HT := Lib.hid ht
  have HK := Lib.hid hkr
  have HL := Lib.hid (fun j hj => (h2 j hj).1)
  have HR := Lib.hid hcr
  have x0 := box_new w #[.slice A n c] 33
  have b0 := below_new w (.cells #[.slice A n c] 33)
  have hn20 := h1.2
  have X0 := Lib.hid x0
  have HC := Lib.hid (hc.below b0)
  have HD := Lib.hid (hk.below b0)
  have HS := Lib.hid (hs.below b0)
  have HKL := Lib.hid hk.1
  have B0 := Lib.hid b0
  clear h2 ht hkr hcr x0 b0 hc hk hs
  go_enter Try.func57, Try.ntmps57
  go_wp2
  generalize w.alloc (.cells #[.slice A n c] 33) = w2 at *
  go_loopw [7, 12] (fun a i wr => ∃ (j : Nat) (E : Option Addr) (c3 : Nat), j ≤ m ∧ i = .int .i64 j ∧ a = .slice E j c3 ∧ Own wr w2.heap.size E j c3 (tabl j (nzP n S cs ks)) ∧ Below w2.heap.size w2 wr) (fun _ i _ => m - (intOf i).toNat)
  case atStart => exact ⟨0, none, 0, Nat.zero_le _, rfl, rfl, Own.nil_, Below.refl _ _⟩
  case round =>
    obtain ⟨j, E, c3, hj, rfl, rfl, hown, hbw⟩ := hrel
    obtain ⟨wo, rfl⟩ : ∃ wo : World, wo = wr := ⟨_, rfl⟩
    have HBW := Lib.hid hbw
    by_cases hlt : j < m
    · obtain ⟨ac, rfl, hcc⟩ := (HC.out.below hbw).at_ hlt
      obtain ⟨ak, rfl, hck⟩ := (HD.out.below hbw).at_ hlt
      have hr := HR.out j hlt
      have hkr := allR_of HK.out j (by rw [HKL.out]; exact hlt)
      obtain ⟨v, hve⟩ : ∃ v : Nat, cs[j]?.getD 0 = (v : Int) := ⟨(cs[j]?.getD 0).toNat, by omega⟩
      obtain ⟨y, hye⟩ : ∃ y : Nat, ks[j]?.getD 0 = (y : Int) := ⟨(ks[j]?.getD 0).toNat, by omega⟩
      have HPV : Hid (nzP n S cs ks j = (v : Int) + nzAt n S v y) := Lib.hid (by unfold nzP; rw [hve, hye]; simp)
      rw [hve] at hcc hr
      rw [hye] at hck hkr
      have hbd := nzAt_bd (x := v) HT.out (show y < 65536 by omega)
      have HS3 := Lib.hid (HS.out.below hbw)
      have xb := box_below X0.out hbw
      have xc := box_cell xb 0 _ rfl
      have HO := Lib.hid hown
      have hw : IntKind.i64.wrap ((v : Int) + nzAt n S v y) = (v : Int) + nzAt n S v y := IntWalk.i64_in _ (by omega)
      have hv6 : v ≤ 1000000 := by omega
      have hy6 : y < 65536 := by omega
      have HYE := Lib.hid hye
      clear hve hye hown hbw xb
      go_wp2
      go_region_held3 (fun w' => w'.cell? ⟨w.heap.size, 0, none⟩ = some (.slice A n c) ∧ w'.cell? (ak.add j) = some (.int .i64 y)) (first | exact ⟨xc, hck⟩ | go_keep) ((first | (go_at_call 107; refine (yNoise_any _ n c v y S _ (by exact HS3.out) h1.1 hn20 HL.out hv6 hy6).mono ?_; rintro e w9 ⟨rfl, b9⟩; have o9 : Own w9 w2.heap.size E j c3 (tabl j (nzP n S cs ks)) := HO.out.keep (fun g _ hg => b9.block g hg); have b9' : Below wo.heap.size wo w9 := (by first | exact b9 | exact (Below.refl _ _).drew.trans b9); have b10 := HBW.out.trans (b9'.mono HBW.out.size); have q1 := (b9'.cell (block_lt_of_cell xc)).trans xc; have q2 := (b9'.cell (block_lt_of_cell hck)).trans hck) | (refine step_app1 (v := (v : Int) + nzAt n S v y) (by rfl) _ _ (by rfl) w2.heap.size E j c3 _ (by rfl) o9 _ (by rfl) (by rfl) (by omega) b10.size ?_; intro A3 c4 w6 hown3 hg3 _; have O6 := Lib.hid hown3; have B6 := Lib.hid (below_write b10 hg3 b10.size (fun k hk => (o9.row_ge k hk).1)); have q3 := box_cell (box_below X0.out B6.out) 0 _ rfl; obtain ⟨ak6, e6, q4⟩ := (HD.out.below B6.out).at_ hlt; (simp only [Option.some.injEq] at e6); subst e6; rw [HYE.out] at q4)))
      all_goals (go_wp2; go_roundw)
      all_goals first | exact ⟨j + 1, A3, c4, by omega, by go_num, rfl, by rw [tabl_succ, HPV.out]; exact O6.out, B6.out⟩ | (simp [intOf]; omega)
    · obtain rfl : m = j := by omega
      go_wp2
      go_ret
      exact ⟨E, c3, rfl, (OwnI.of_own hown (by omega)).fit B0.out.size, B0.out.trans (HBW.out.mono B0.out.size)⟩
end Go.Proofs.Ytgeilnkglbcmeaa
