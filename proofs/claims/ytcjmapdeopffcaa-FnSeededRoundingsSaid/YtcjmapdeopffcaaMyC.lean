/- One search for a path, and what is added along it: the reference. -/
import Derived.Test.YtcjmapdeopffcaaMyB
namespace Go.Proofs.Ytcjmapdeopffcaa
open Go.RowKit Flo
set_option linter.unusedVariables false

/-- Nothing leads out of a set of nodes. -/
def Shut (t : Net) (x : Nat → Nat → Int) (a b : Nat → Int) : Prop := ∃ S : Nat → Bool, (∀ i, i < t.n → 0 < a i → S i = true) ∧ (∀ j, j < t.m → S (t.n + j) = true → b j ≤ 0) ∧ ∀ u v, u < t.n + t.m → v < t.n + t.m → S u = true → S v = false → roomV t x u v ≤ 0
theorem shut_of {t : Net} {x : Nat → Nat → Int} {a b : Nat → Int} {par : Nat → Nat} {seen : List Nat} (h : Bfs (t.n + t.m) (roomV t x) (rtS t a) par seen seen.length) (hd : ∀ i, i < seen.length → ∀ j, j < t.m → sn seen i = t.n + j → b j ≤ 0) : Shut t x a b := by
  refine ⟨fun v => decide (v ∈ seen), fun i hi ha => ?_, fun j hj hs => ?_, fun u v hu hv hs hn => ?_⟩
  · have := h.roots i (by omega) (by unfold rtS; rw [decide_eq_true hi, decide_eq_true ha]; rfl)
    exact decide_eq_true this
  · obtain ⟨i, hi, e⟩ := mem_sn.1 (of_decide_eq_true hs)
    exact hd i hi j hj e
  · exact h.cut hv (of_decide_eq_true hs) (of_decide_eq_false hn)
theorem rtS_of {t : Net} {a : Nat → Int} {v : Nat} : rtS t a v = true ↔ v < t.n ∧ 0 < a v := by
  unfold rtS; simp
theorem own_chg {w w' : World} {B lo hi n c : Nat} {A : Option Addr} {xs : List Int} (h : Own w B A n c xs) (hc : Chg lo hi w w') (hd : hi ≤ B) : Own w' B A n c xs := h.keep fun g e hg => hc.block g hg (.inr (by have := (h.row_ge g (by rw [e]; rfl)).1; omega))
theorem iniG_next {root : Nat → Bool} {j : Nat} : ∀ v, (if v = j then (if root j then -1 else -2) else iniG root j v) = iniG root (j + 1) v := fun v => by
  unfold iniG
  by_cases e : v = j
  · subst e; rw [if_pos rfl, if_pos (show v < v + 1 by omega)]
  · rw [if_neg e]
    by_cases h : v < j
    · rw [if_pos h, if_pos (show v < j + 1 by omega)]
    · rw [if_neg h, if_neg (show ¬ v < j + 1 by omega)]


set_option maxRecDepth 100000 in
set_option maxHeartbeats 8000000 in
theorem augment_any (w0 : World) (F n m h0 h1 h2 h3 h4 : Nat) (R C L H X A B : Option Addr) (rc cc lc hc xc ac bc : Nat) (t : Net) (x : Nat → Nat → Int) (a b : Nat → Int) (w : World)
    (h : FilM w0 w F n m h0 h1 h2 h3 h4 R C L H X A B rc cc lc hc xc ac bc t x a b) (ht : NetB t) (hP : t.Part x a b) :
    Calls Try.prog 100 #[.pointer (some ⟨F, 0, none⟩)] w fun e w' => ∃ r : Bool, e = .returned (.bool r) ∧ Chg h0 h4 w w' ∧ (∃ x' a' b', FilM w0 w' F n m h0 h1 h2 h3 h4 R C L H X A B rc cc lc hc xc ac bc t x' a' b' ∧ t.Part x' a' b' ∧
      (r = true → sm n a' < sm n a) ∧ (r = false → sm n a' = sm n a ∧ Shut t x' a' b')) := by
  have h8 := ht.n8
  have h8' := ht.m8
  rw [h.en] at h8
  rw [h.em] at h8'
  have HT := Lib.hid ht
  have HF := Lib.hid h
  have HP := Lib.hid hP
  have EN := Lib.hid h.en
  have EM := Lib.hid h.em
  have EK : Hid (t.n + t.m = n + m) := Lib.hid (by rw [h.en, h.em])
  have HL := Lib.hid (hP.left (fun i j hi hj => (ht.b i j hi hj).1))
  have f2 := box_cell h.box 5 (.slice A n ac) rfl
  have f3 := box_cell h.box 6 (.slice B m bc) rfl
  have hs5 := h.l5
  obtain ⟨i0, hi, hz0, hz1, hz2⟩ := info_parts Try.infoInt
  clear ht h hP
  go_enter Try.func100, Try.ntmps100
  go_wp2
  go_quiet (fail)
  go_wp2_with (at_make; refine wpList_make_full _ rfl _ _ 24 rfl w.heap.size 3 i0 _ 1 Try.underlying24 hi hz0 hz1 .i64 .i64 _ _ (n + m) rfl rfl rfl rfl (by rw [hz2]; omega) (by unfold maxLen; omega) (Nat.le_refl _) ?_; intro w1 hown hg)
  rw [map_replicate0, rep_lst] at hown
  have hb1 : Below w.heap.size w w1 := (below_drewN (Below.refl _ _) _).grown hg (by simp) (by simp)
  have hz1' : w.heap.size + 1 ≤ w1.heap.size := by have := (World.ownsRow.lt hown w.heap.size rfl).2; omega
  have hO : Hid (Vec w1 w.heap.size (w.heap.size + 1) (some ⟨w.heap.size, 0, none⟩) (n + m) (n + m) (iniG (rtS t a) 0)) := Lib.hid (vec_fn (g := fun _ => 0) ⟨hown, (fun k hk => by simp [rowOf] at hk; omega), by omega⟩ fun k _ => by unfold iniG; rw [if_neg (by omega)])
  have hb1 := Lib.hid hb1
  have HOQ : Hid (Own w1 (w.heap.size + 1) none 0 0 (nums [])) := Lib.hid Own.nil_
  have HI0 : Hid (Ini (n + m) (rtS t a) [] 0) := Lib.hid Ini.start
  clear hown hg hi hz0 hz1 hz2 f2 f3
  go_loopw [6, 27] (fun qv i wr => ∃ (j : Nat) (D : Option Addr) (cD : Nat) (seen : List Nat), j ≤ n + m ∧ i = .int .i64 j ∧ qv = .slice D seen.length cD ∧ Hid (Ini (n + m) (rtS t a) seen j) ∧ Hid (Own wr (w.heap.size + 1) D seen.length cD (nums seen)) ∧ Hid (Vec wr w.heap.size (w.heap.size + 1) (some ⟨w.heap.size, 0, none⟩) (n + m) (n + m) (iniG (rtS t a) j)) ∧ Hid (Below w.heap.size w wr) ∧ w.heap.size + 1 ≤ wr.heap.size) (fun _ i _ => (n + m) - (intOf i).toNat)
  case atStart => exact ⟨0, none, 0, [], Nat.zero_le _, rfl, rfl, HI0, HOQ, hO, hb1, hz1'⟩
  case round =>
    clear HI0 HOQ hO hb1 hz1'
    obtain ⟨j, D, cD, seen, hj, rfl, rfl, HI, HQ, HG, HB, hz⟩ := hrel
    have hsl : seen.length ≤ n + m := by
      have h1 := (HI.out).cnt
      have h2 : sm (n + m) (fun v => if v ∈ seen then (1 : Int) else 0) ≤ sm (n + m) (fun _ => 1) := sm_le fun v _ => by split <;> omega
      have h3 : ∀ N : Nat, sm N (fun _ => (1 : Int)) = N := fun N => by
        induction N with
        | zero => rfl
        | succ N ih => simp only [sm]; rw [ih]; omega
      rw [h3] at h2
      omega
    by_cases hlt : j < n + m
    · have HFw := Lib.hid (HF.out.below HB.out)
      have f2 := box_cell HFw.out.box 5 (.slice A n ac) rfl
      obtain ⟨gg, eg, cg, cf, s1, s2, s3, back⟩ := vec_cell HG.out hlt
      obtain rfl : w.heap.size = gg := congrArg Addr.block (Option.some.inj eg)
      have HB2 := Lib.hid ((HB.out.setCell (p := ⟨w.heap.size, j, none⟩) (Nat.le_refl _) (.int .i64 (-2))))
      have HFw := Lib.hid (HF.out.below HB2.out)
      have f2 := box_cell HFw.out.box 5 (.slice A n ac) rfl
      have HC2 := Lib.hid ((Chg.refl w.heap.size (w.heap.size + 1) wr).set (i := j) (v := .int .i64 (-2)) s1 s2)
      obtain ⟨c1, c2⟩ : wr.cell? ⟨w.heap.size, j, none⟩ = some (.int .i64 (iniG (rtS t a) j j)) ∧ wr.frozen? ⟨w.heap.size, j, none⟩ = false := ⟨cg, cf⟩
      have HG2 := Lib.hid (back (-2))
      have HQ2 := Lib.hid (own_chg HQ.out HC2.out (Nat.le_refl _))
      cases hr : rtS t a j
      case false =>
        have HI2 := Lib.hid (HI.out.no hlt hr)
        have HG3 := Lib.hid (vec_fn HG2.out (g' := iniG (rtS t a) (j + 1)) fun v _ => by rw [← iniG_next v, hr]; rfl)
        have hz2 : w.heap.size + 1 ≤ (wr.setCell ⟨w.heap.size, j, none⟩ (.int .i64 (-2))).heap.size := by simpa using hz
        by_cases hjn : j < n
        · have haj : ¬ 0 < a j := fun h => by rw [rtS_of.2 ⟨by rw [EN.out]; exact hjn, h⟩] at hr; cases hr
          obtain ⟨ga, rfl, ca, _⟩ := HFw.out.rowCell hjn
          clear HG HG2 HQ HI HB hr back s1 s2 s3 eg HC2 cg
          go_wp2
          go_roundw
          case rel => exact ⟨j + 1, D, cD, seen, by omega, by go_num, rfl, HI2, HQ2, HG3, HB2, hz2⟩
          case measure => simp [intOf]; omega
        · clear HG HG2 HQ HI HB hr back s1 s2 s3 eg HC2 cg
          go_wp2
          go_roundw
          case rel => exact ⟨j + 1, D, cD, seen, by omega, by go_num, rfl, HI2, HQ2, HG3, HB2, hz2⟩
          case measure => simp [intOf]; omega
      case true =>
        have HI2 := Lib.hid (HI.out.yes hlt hr)
        obtain ⟨hjn, haj⟩ := rtS_of.1 hr
        rw [EN.out] at hjn
        obtain ⟨ga, rfl, ca, _⟩ := HFw.out.rowCell hjn
        obtain ⟨gg, eg2, cg2, cf2, s1', s2', s3', back2⟩ := vec_cell HG2.out hlt
        obtain rfl : w.heap.size = gg := congrArg Addr.block (Option.some.inj eg2)
        have HB3 := Lib.hid (HB2.out.setCell (p := ⟨w.heap.size, j, none⟩) (Nat.le_refl _) (.int .i64 (-1)))
        have HC3 := Lib.hid ((Chg.refl w.heap.size (w.heap.size + 1) (wr.setCell ⟨w.heap.size, j, none⟩ (.int .i64 (-2)))).set (i := j) (v := .int .i64 (-1)) s1 s2)
        have HG3 := Lib.hid (vec_fn (back2 (-1)) (g' := iniG (rtS t a) (j + 1)) fun v _ => by
          rw [← iniG_next v, hr]
          by_cases e : v = j
          · rw [if_pos e, if_pos e]; rfl
          · rw [if_neg e, if_neg e, if_neg e])
        have hQ3 := own_chg HQ2.out HC3.out (Nat.le_refl _)
        have hz3 : w.heap.size + 1 ≤ ((wr.setCell ⟨w.heap.size, j, none⟩ (.int .i64 (-2))).setCell ⟨w.heap.size, j, none⟩ (.int .i64 (-1))).heap.size := by simpa using hz
        have HR := Lib.hid (fun q hq => (hQ3.row_ge q hq).1)
        have HS := Lib.hid (nums_snoc seen j)
        have hsl2 : (seen ++ [j]).length = seen.length + 1 := by simp
        have HSL := Lib.hid hsl2
        clear HG HG2 HQ HQ2 HI HB HB2 HC2 HC3 hr back back2 s1 s2 s3 s1' s2' s3' eg eg2 cg hsl2
        have HZ3 := Lib.hid hz3
        go_wp2_with (at_builtin; refine wp_app1 rfl _ _ rfl (w.heap.size + 1) D seen.length cD _ rfl hQ3 _ rfl (by simp) (by omega) HZ3.out ?_; intro D2 cD2 w6 ho6 hg6 _; have HQ6 := Lib.hid ho6; have HB6 := Lib.hid (HB3.out.grown hg6 (Nat.le_trans (Nat.le_succ _) HZ3.out) (fun k hk => Nat.le_trans (Nat.le_succ _) (HR.out k hk))); have HZ6 : Hid (w.heap.size + 1 ≤ w6.heap.size) := Lib.hid (Nat.le_trans HZ3.out hg6.size); have HG6 : Hid (Vec w6 w.heap.size (w.heap.size + 1) (some ⟨w.heap.size, 0, none⟩) (n + m) (n + m) (iniG (rtS t a) (j + 1))) := Lib.hid ⟨Own.far_gt HG3.out.own hg6 (fun k hk => by have := HR.out k hk; omega), HG3.out.top, HG3.out.small⟩; rw [← HS.out] at HQ6; clear ho6 hg6)
        go_roundw
        case rel => exact ⟨j + 1, D2, cD2, seen ++ [j], by omega, by go_num, by rw [HSL.out], HI2, by rw [HSL.out]; exact HQ6, HG6, HB6, HZ6.out⟩
        case measure => simp [intOf]; omega
    · obtain ⟨K, hK⟩ : ∃ K, K = n + m := ⟨_, rfl⟩
      have hjK : j = K := by omega
      have HBf : Hid (Bfs (t.n + t.m) (roomV t x) (rtS t a) (fun _ => 0) seen 0) := Lib.hid (by rw [EK.out]; have := HI.out; rw [show j = n + m by omega] at this; exact this.bfs)
      have HBk : Hid (BkS (t.n + t.m) (iniG (rtS t a) j) (rtS t a) (fun _ => 0) seen) := Lib.hid (by rw [EK.out]; have := HI.out; rw [show j = n + m by omega] at this ⊢; exact this.bk fun _ _ => rfl)
      generalize iniG (rtS t a) j = g at *
      clear HI hjK hK
      go_wp2_with fail
      go_loopw [6, 8] (fun qv kv wr => ∃ (k : Nat) (D : Option Addr) (cD : Nat) (seen : List Nat) (par : Nat → Nat) (g : Nat → Int), kv = .int .i64 k ∧ qv = .slice D seen.length cD ∧ k ≤ seen.length ∧ seen.length ≤ n + m ∧ Hid (Bfs (t.n + t.m) (roomV t x) (rtS t a) par seen k) ∧ Hid (BkS (t.n + t.m) g (rtS t a) par seen) ∧ Hid (∀ i, i < k → ∀ j, j < t.m → sn seen i = t.n + j → b j ≤ 0) ∧
        Hid (Own wr (w.heap.size + 1) D seen.length cD (nums seen)) ∧ Hid (Vec wr w.heap.size (w.heap.size + 1) (some ⟨w.heap.size, 0, none⟩) (n + m) (n + m) g) ∧ Hid (Below w.heap.size w wr) ∧ w.heap.size + 1 ≤ wr.heap.size) (fun _ kv _ => (n + m) - (intOf kv).toNat)
      case atStart => exact ⟨0, D, cD, seen, _, g, rfl, rfl, Nat.zero_le _, hsl, HBf, HBk, Lib.hid (fun i hi => absurd hi (by omega)), HQ, HG, HB, hz⟩
      case round =>
        clear HBf HBk HQ HG HB hz hsl hlt hj
        obtain ⟨k, D, cD, seen, par, g, rfl, rfl, hk, hsl, HBf, HBk, HD, HQ, HG, HB, hz⟩ := hrel
        by_cases hks : k < seen.length
        case neg =>
          have HSh : Hid (Shut t x a b) := Lib.hid (by
            have h1 : k = seen.length := by omega
            subst h1
            exact shut_of HBf.out HD.out)
          have HFw := Lib.hid (HF.out.below HB.out)
          go_wp2
          go_ret
          exact ⟨false, rfl, Chg.of_below HB.out, x, a, b, HFw.out, HP.out, (fun h => by cases h), fun _ => ⟨rfl, HSh.out⟩⟩
        case pos =>
          obtain ⟨gq, rfl, _, _, cq, _⟩ := HQ.out.at_ hks
          rw [nums_at hks] at cq
          obtain ⟨v, HV⟩ : ∃ v, Hid (sn seen k = v) := ⟨_, Lib.hid rfl⟩
          have hvk : v < n + m := by have := HBf.out.lt k hks; rw [HV.out, EK.out] at this; exact this
          rw [HV.out] at cq
          by_cases hvn : v < n
          case pos =>
            have hbq : True := trivial
            have HD2 : Hid (∀ i, i < k + 1 → ∀ j, j < t.m → sn seen i = t.n + j → b j ≤ 0) := Lib.hid (fun i hi j hj e => by
              rcases Nat.lt_or_ge i k with h1 | h1
              · exact HD.out i h1 j hj e
              · obtain rfl : i = k := by omega
                rw [HV.out, EN.out] at e; omega)
            go_wp2_with fail
            clear hbq
            go_loopw [6, 10] (fun qv uv wr => ∃ (u : Nat) (D : Option Addr) (cD : Nat) (seen : List Nat) (par : Nat → Nat) (g : Nat → Int), u ≤ n + m ∧ uv = .int .i64 u ∧ qv = .slice D seen.length cD ∧ k < seen.length ∧ seen.length ≤ n + m ∧ Hid (sn seen k = v) ∧ Hid (Bfs (t.n + t.m) (roomV t x) (rtS t a) par seen k) ∧ Hid (BkS (t.n + t.m) g (rtS t a) par seen) ∧ Hid (∀ i, i < k + 1 → ∀ j, j < t.m → sn seen i = t.n + j → b j ≤ 0) ∧ Hid (∀ z, z < u → 0 < roomV t x v z → z ∈ seen) ∧
              Hid (Own wr (w.heap.size + 1) D seen.length cD (nums seen)) ∧ Hid (Vec wr w.heap.size (w.heap.size + 1) (some ⟨w.heap.size, 0, none⟩) (n + m) (n + m) g) ∧ Hid (Below w.heap.size w wr) ∧ w.heap.size + 1 ≤ wr.heap.size) (fun _ uv _ => (n + m) - (intOf uv).toNat)
            case atStart => exact ⟨0, _, cD, seen, par, g, Nat.zero_le _, rfl, rfl, hks, hsl, HV, HBf, HBk, HD2, Lib.hid (fun z hz => absurd hz (by omega)), HQ, HG, HB, hz⟩
            case round =>
              clear HV HBf HBk HD HD2 HQ HG HB hz hsl hks hk
              obtain ⟨u, D, cD, seen, par, g, hu, rfl, rfl, hks, hsl, HV, HBf, HBk, HD, HZ, HQ, HG, HB, hz⟩ := hrel
              by_cases hun : u < n + m
              case neg =>
                have HBf2 : Hid (Bfs (t.n + t.m) (roomV t x) (rtS t a) par seen (k + 1)) := Lib.hid (HBf.out.next hks (fun z hzk hr => HZ.out z (by rw [EK.out] at hzk; omega) (by rw [HV.out] at hr; exact hr)))
                go_wp2
                go_roundw
                case rel => exact ⟨k + 1, D, cD, seen, par, g, by go_num, rfl, by omega, hsl, HBf2, HBk, HD, HQ, HG, HB, hz⟩
                case measure => simp [intOf]; omega
              case pos =>
                obtain ⟨gg, eg, cg, cf, s1, s2, s3, back⟩ := vec_cell HG.out hun
                obtain rfl : w.heap.size = gg := congrArg Addr.block (Option.some.inj eg)
                have hbk := HBk.out u (by rw [EK.out]; exact hun)
                by_cases hus : u ∈ seen
                case pos =>
                  have hgu : -1 ≤ g u := by
                    rw [hbk.1 hus]
                    split <;> omega
                  have HZ2 : Hid (∀ z, z < u + 1 → 0 < roomV t x v z → z ∈ seen) := Lib.hid (fun z hzu hr => by
                    rcases Nat.lt_or_ge z u with h1 | h1
                    · exact HZ.out z h1 hr
                    · obtain rfl : z = u := by omega
                      exact hus)
                  clear back hbk hus s1 s2 s3 eg HZ
                  generalize g u = gu at *
                  go_wp2
                  go_roundw
                  case rel => exact ⟨u + 1, D, cD, seen, par, g, by omega, by go_num, rfl, hks, hsl, HV, HBf, HBk, HD, HZ2, HQ, HG, HB, hz⟩
                  case measure => simp [intOf]; omega
                case neg =>
                  rw [hbk.2 hus] at cg
                  have HFw := Lib.hid (HF.out.below HB.out)
                  have HU := Lib.hid hus
                  have HBack := Lib.hid back
                  clear hbk hus back eg s3
                  go_wp2_with fail
                  refine (room_any F n m R C L H X A _ rc cc lc hc xc ac bc t x v u _ EN.out EM.out HFw.out.box HFw.out.netR HFw.out.x.read HT.out (fun i j hi hj => ⟨HP.out.ge i j hi hj, HP.out.le i j hi hj⟩) hvk hun).mono ?_
                  rintro e w2 ⟨rfl, b2⟩
                  by_cases hroom : 0 < roomV t x v u
                  case neg =>
                    have HZ2 : Hid (∀ z, z < u + 1 → 0 < roomV t x v z → z ∈ seen) := Lib.hid (fun z hzu hr => by
                      rcases Nat.lt_or_ge z u with h1 | h1
                      · exact HZ.out z h1 hr
                      · obtain rfl : z = u := by omega
                        exact absurd hr hroom)
                    have HQ2 := Lib.hid (HQ.out.below b2)
                    have HG2 := Lib.hid (HG.out.below b2)
                    have HB2 := Lib.hid (HB.out.trans (b2.mono (by omega)))
                    have hz2 : w.heap.size + 1 ≤ w2.heap.size := Nat.le_trans hz b2.size
                    clear HZ HQ HG HB HFw HBack cg cf b2 hz
                    generalize roomV t x v u = rr at *
                    go_wp2
                    go_roundw
                    case rel => exact ⟨u + 1, D, cD, seen, par, g, by omega, by go_num, rfl, hks, hsl, HV, HBf, HBk, HD, HZ2, HQ2, HG2, HB2, hz2⟩
                    case measure => simp [intOf]; omega
                  case pos =>
                    have hru : rtS t a u = false := by
                      cases h1 : rtS t a u
                      · rfl
                      · exact absurd (HBf.out.roots u (by rw [EK.out]; exact hun) h1) HU.out
                    have HBf2 : Hid (Bfs (t.n + t.m) (roomV t x) (rtS t a) (fun z => if z = u then v else par z) (seen ++ [u]) k) := Lib.hid (by
                      have h1 := HBf.out.more hks (v := u) (by rw [EK.out]; exact hun) HU.out (by rw [HV.out]; exact hroom)
                      rw [HV.out] at h1
                      exact h1)
                    have HBk2 := Lib.hid (HBk.out.more (v := u) (p := v) hru)
                    have HV2 : Hid (sn (seen ++ [u]) k = v) := Lib.hid (by rw [sn_left hks]; exact HV.out)
                    have HD2 : Hid (∀ i, i < k + 1 → ∀ j, j < t.m → sn (seen ++ [u]) i = t.n + j → b j ≤ 0) := Lib.hid (fun i hi j hj e => by
                      rw [sn_left (by omega)] at e
                      exact HD.out i hi j hj e)
                    have HZ2 : Hid (∀ z, z < u + 1 → 0 < roomV t x v z → z ∈ seen ++ [u]) := Lib.hid (fun z hzu hr => by
                      rcases Nat.lt_or_ge z u with h1 | h1
                      · exact List.mem_append_left _ (HZ.out z h1 hr)
                      · obtain rfl : z = u := by omega
                        exact List.mem_append_right _ (List.mem_singleton.2 rfl))
                    have hlen : seen.length + 1 ≤ n + m := by
                      have h1 := HBf2.out.len
                      rw [EK.out] at h1
                      simpa using h1
                    have hG2 := HG.out.below b2
                    obtain ⟨gg, eg, cg2, cf2, s1', s2', s3', back2⟩ := vec_cell hG2 hun
                    obtain rfl : w.heap.size = gg := congrArg Addr.block (Option.some.inj eg)
                    have HG3 := Lib.hid (back2 (v : Int))
                    have HC3 := Lib.hid ((Chg.refl w.heap.size (w.heap.size + 1) w2).set (i := u) (v := .int .i64 (v : Int)) s1 s2)
                    have hQ3 := own_chg (HQ.out.below b2) HC3.out (Nat.le_refl _)
                    have HB3 := Lib.hid ((HB.out.trans (b2.mono (by omega))).setCell (p := ⟨w.heap.size, u, none⟩) (Nat.le_refl _) (.int .i64 (v : Int)))
                    have hz3 : w.heap.size + 1 ≤ (w2.setCell ⟨w.heap.size, u, none⟩ (.int .i64 (v : Int))).heap.size := Nat.le_trans (Nat.le_trans hz b2.size) HC3.out.size
                    have HR := Lib.hid (fun q hq => (hQ3.row_ge q hq).1)
                    have HS := Lib.hid (nums_snoc seen u)
                    have HSL : Hid ((seen ++ [u]).length = seen.length + 1) := Lib.hid (by simp)
                    have HZ3 := Lib.hid hz3
                    clear HZ HQ HG HB HFw HBack cg cf b2 hz hG2 back2 s1' s2' s3' eg HC3 s1 s2 HBf HBk hz3 HU hru
                    generalize roomV t x v u = rr at *
                    go_wp2_with (at_builtin; refine wp_app1 rfl _ _ rfl (w.heap.size + 1) D seen.length cD _ rfl hQ3 _ rfl (by simp) (by omega) HZ3.out ?_; intro D2 cD2 w6 ho6 hg6 _; have HQ6 := Lib.hid ho6; have HB6 := Lib.hid (HB3.out.grown hg6 (Nat.le_trans (Nat.le_succ _) HZ3.out) (fun k hk => Nat.le_trans (Nat.le_succ _) (HR.out k hk))); have HZ6 : Hid (w.heap.size + 1 ≤ w6.heap.size) := Lib.hid (Nat.le_trans HZ3.out hg6.size); have HG6 : Hid (Vec w6 w.heap.size (w.heap.size + 1) (some ⟨w.heap.size, 0, none⟩) (n + m) (n + m) (fun z => if z = u then (v : Int) else g z)) := Lib.hid ⟨Own.far_gt HG3.out.own hg6 (fun k hk => by have := HR.out k hk; omega), HG3.out.top, HG3.out.small⟩; rw [← HS.out] at HQ6; clear ho6 hg6)
                    go_roundw
                    case rel => exact ⟨u + 1, D2, cD2, seen ++ [u], _, _, by omega, by go_num, by rw [HSL.out], by rw [HSL.out]; omega, by rw [HSL.out]; exact hlen, HV2, HBf2, HBk2, HD2, HZ2, by rw [HSL.out]; exact HQ6, HG6, HB6, HZ6.out⟩
                    case measure => simp [intOf]; omega
          case neg =>
            have HFw := Lib.hid (HF.out.below HB.out)
            have f3 := box_cell HFw.out.box 6 (.slice B m bc) rfl
            obtain ⟨q, hq⟩ : ∃ q, v = n + q := ⟨v - n, by omega⟩
            have hqm : q < m := by omega
            have hvq : (v : Int) - (n : Int) = (q : Int) := by omega
            obtain ⟨gb, rfl, cb, _, _⟩ := HFw.out.colCell hqm
            have HVQ := Lib.hid hq
            clear hq
            by_cases hbq : 0 < b q
            case pos =>
              obtain ⟨l0, hl0⟩ := HBf.out.way k k (Nat.le_refl _) hks
              have HG4 : Hid (Vec wr h4 (w.heap.size + 1) (some ⟨w.heap.size, 0, none⟩) (n + m) (n + m) g) := Lib.hid ⟨HG.out.own.mono hs5, (fun k hk => by have := HG.out.top k hk; omega), HG.out.small⟩
              have HPa : Hid (PathS t x a g par seen k k l0) := Lib.hid ⟨HBf.out, HBk.out, hl0, hks⟩
              have HE : Hid (sn seen k = n + q) := Lib.hid (by rw [HV.out, HVQ.out])
              have HVI : Hid ((v : Int) = ((n + q : Nat) : Int)) := Lib.hid (by rw [HVQ.out])
              have HB0 := Lib.hid hbq
              clear hl0 HBf HBk HD HQ HG
              go_wp2_with fail
              rw [HVI.out]
              refine (fillPush_any w0 F n m q h0 h1 h2 h3 h4 R C L H X A _ _ rc cc lc hc xc ac bc (n + m) k k (w.heap.size + 1) t x a b g par seen l0 _ HFw.out HT.out HP.out HG4.out HPa.out hqm HE.out HB0.out).mono ?_
              rintro e w5 ⟨rfl, x', a', b', f5, p5, s5, c5⟩
              have F5 := Lib.hid f5
              have P5 := Lib.hid p5
              have S5 := Lib.hid s5
              have C5 := Lib.hid ((Chg.of_below HB.out).trans c5)
              clear f5 p5 s5 c5 f3 cb cq
              go_wp2
              go_ret
              exact ⟨true, rfl, C5.out, x', a', b', F5.out, P5.out, fun _ => S5.out, (fun h => by cases h)⟩
            case neg =>
              have HD2 : Hid (∀ i, i < k + 1 → ∀ j, j < t.m → sn seen i = t.n + j → b j ≤ 0) := Lib.hid (fun i hi j hj e => by
                rcases Nat.lt_or_ge i k with h1 | h1
                · exact HD.out i h1 j hj e
                · obtain rfl : i = k := by omega
                  rw [HV.out, EN.out, HVQ.out] at e
                  obtain rfl : q = j := by omega
                  omega)
              go_wp2_with fail
              clear hbq
              go_loopw [6, 10] (fun qv uv wr => ∃ (u : Nat) (D : Option Addr) (cD : Nat) (seen : List Nat) (par : Nat → Nat) (g : Nat → Int), u ≤ n + m ∧ uv = .int .i64 u ∧ qv = .slice D seen.length cD ∧ k < seen.length ∧ seen.length ≤ n + m ∧ Hid (sn seen k = v) ∧ Hid (Bfs (t.n + t.m) (roomV t x) (rtS t a) par seen k) ∧ Hid (BkS (t.n + t.m) g (rtS t a) par seen) ∧ Hid (∀ i, i < k + 1 → ∀ j, j < t.m → sn seen i = t.n + j → b j ≤ 0) ∧ Hid (∀ z, z < u → 0 < roomV t x v z → z ∈ seen) ∧
                Hid (Own wr (w.heap.size + 1) D seen.length cD (nums seen)) ∧ Hid (Vec wr w.heap.size (w.heap.size + 1) (some ⟨w.heap.size, 0, none⟩) (n + m) (n + m) g) ∧ Hid (Below w.heap.size w wr) ∧ w.heap.size + 1 ≤ wr.heap.size) (fun _ uv _ => (n + m) - (intOf uv).toNat)
              case atStart => exact ⟨0, _, cD, seen, par, g, Nat.zero_le _, rfl, rfl, hks, hsl, HV, HBf, HBk, HD2, Lib.hid (fun z hz => absurd hz (by omega)), HQ, HG, HB, hz⟩
              case round =>
                clear HV HBf HBk HD HD2 HQ HG HB hz hsl hks hk
                obtain ⟨u, D, cD, seen, par, g, hu, rfl, rfl, hks, hsl, HV, HBf, HBk, HD, HZ, HQ, HG, HB, hz⟩ := hrel
                by_cases hun : u < n + m
                case neg =>
                  have HBf2 : Hid (Bfs (t.n + t.m) (roomV t x) (rtS t a) par seen (k + 1)) := Lib.hid (HBf.out.next hks (fun z hzk hr => HZ.out z (by rw [EK.out] at hzk; omega) (by rw [HV.out] at hr; exact hr)))
                  go_wp2
                  go_roundw
                  case rel => exact ⟨k + 1, D, cD, seen, par, g, by go_num, rfl, by omega, hsl, HBf2, HBk, HD, HQ, HG, HB, hz⟩
                  case measure => simp [intOf]; omega
                case pos =>
                  obtain ⟨gg, eg, cg, cf, s1, s2, s3, back⟩ := vec_cell HG.out hun
                  obtain rfl : w.heap.size = gg := congrArg Addr.block (Option.some.inj eg)
                  have hbk := HBk.out u (by rw [EK.out]; exact hun)
                  by_cases hus : u ∈ seen
                  case pos =>
                    have hgu : -1 ≤ g u := by
                      rw [hbk.1 hus]
                      split <;> omega
                    have HZ2 : Hid (∀ z, z < u + 1 → 0 < roomV t x v z → z ∈ seen) := Lib.hid (fun z hzu hr => by
                      rcases Nat.lt_or_ge z u with h1 | h1
                      · exact HZ.out z h1 hr
                      · obtain rfl : z = u := by omega
                        exact hus)
                    clear back hbk hus s1 s2 s3 eg HZ
                    generalize g u = gu at *
                    go_wp2
                    go_roundw
                    case rel => exact ⟨u + 1, D, cD, seen, par, g, by omega, by go_num, rfl, hks, hsl, HV, HBf, HBk, HD, HZ2, HQ, HG, HB, hz⟩
                    case measure => simp [intOf]; omega
                  case neg =>
                    rw [hbk.2 hus] at cg
                    have HFw := Lib.hid (HF.out.below HB.out)
                    have HU := Lib.hid hus
                    have HBack := Lib.hid back
                    clear hbk hus back eg s3
                    go_wp2_with fail
                    refine (room_any F n m R C L H X A _ rc cc lc hc xc ac bc t x v u _ EN.out EM.out HFw.out.box HFw.out.netR HFw.out.x.read HT.out (fun i j hi hj => ⟨HP.out.ge i j hi hj, HP.out.le i j hi hj⟩) hvk hun).mono ?_
                    rintro e w2 ⟨rfl, b2⟩
                    by_cases hroom : 0 < roomV t x v u
                    case neg =>
                      have HZ2 : Hid (∀ z, z < u + 1 → 0 < roomV t x v z → z ∈ seen) := Lib.hid (fun z hzu hr => by
                        rcases Nat.lt_or_ge z u with h1 | h1
                        · exact HZ.out z h1 hr
                        · obtain rfl : z = u := by omega
                          exact absurd hr hroom)
                      have HQ2 := Lib.hid (HQ.out.below b2)
                      have HG2 := Lib.hid (HG.out.below b2)
                      have HB2 := Lib.hid (HB.out.trans (b2.mono (by omega)))
                      have hz2 : w.heap.size + 1 ≤ w2.heap.size := Nat.le_trans hz b2.size
                      clear HZ HQ HG HB HFw HBack cg cf b2 hz
                      generalize roomV t x v u = rr at *
                      go_wp2
                      go_roundw
                      case rel => exact ⟨u + 1, D, cD, seen, par, g, by omega, by go_num, rfl, hks, hsl, HV, HBf, HBk, HD, HZ2, HQ2, HG2, HB2, hz2⟩
                      case measure => simp [intOf]; omega
                    case pos =>
                      have hru : rtS t a u = false := by
                        cases h1 : rtS t a u
                        · rfl
                        · exact absurd (HBf.out.roots u (by rw [EK.out]; exact hun) h1) HU.out
                      have HBf2 : Hid (Bfs (t.n + t.m) (roomV t x) (rtS t a) (fun z => if z = u then v else par z) (seen ++ [u]) k) := Lib.hid (by
                        have h1 := HBf.out.more hks (v := u) (by rw [EK.out]; exact hun) HU.out (by rw [HV.out]; exact hroom)
                        rw [HV.out] at h1
                        exact h1)
                      have HBk2 := Lib.hid (HBk.out.more (v := u) (p := v) hru)
                      have HV2 : Hid (sn (seen ++ [u]) k = v) := Lib.hid (by rw [sn_left hks]; exact HV.out)
                      have HD2 : Hid (∀ i, i < k + 1 → ∀ j, j < t.m → sn (seen ++ [u]) i = t.n + j → b j ≤ 0) := Lib.hid (fun i hi j hj e => by
                        rw [sn_left (by omega)] at e
                        exact HD.out i hi j hj e)
                      have HZ2 : Hid (∀ z, z < u + 1 → 0 < roomV t x v z → z ∈ seen ++ [u]) := Lib.hid (fun z hzu hr => by
                        rcases Nat.lt_or_ge z u with h1 | h1
                        · exact List.mem_append_left _ (HZ.out z h1 hr)
                        · obtain rfl : z = u := by omega
                          exact List.mem_append_right _ (List.mem_singleton.2 rfl))
                      have hlen : seen.length + 1 ≤ n + m := by
                        have h1 := HBf2.out.len
                        rw [EK.out] at h1
                        simpa using h1
                      have hG2 := HG.out.below b2
                      obtain ⟨gg, eg, cg2, cf2, s1', s2', s3', back2⟩ := vec_cell hG2 hun
                      obtain rfl : w.heap.size = gg := congrArg Addr.block (Option.some.inj eg)
                      have HG3 := Lib.hid (back2 (v : Int))
                      have HC3 := Lib.hid ((Chg.refl w.heap.size (w.heap.size + 1) w2).set (i := u) (v := .int .i64 (v : Int)) s1 s2)
                      have hQ3 := own_chg (HQ.out.below b2) HC3.out (Nat.le_refl _)
                      have HB3 := Lib.hid ((HB.out.trans (b2.mono (by omega))).setCell (p := ⟨w.heap.size, u, none⟩) (Nat.le_refl _) (.int .i64 (v : Int)))
                      have hz3 : w.heap.size + 1 ≤ (w2.setCell ⟨w.heap.size, u, none⟩ (.int .i64 (v : Int))).heap.size := Nat.le_trans (Nat.le_trans hz b2.size) HC3.out.size
                      have HR := Lib.hid (fun q hq => (hQ3.row_ge q hq).1)
                      have HS := Lib.hid (nums_snoc seen u)
                      have HSL : Hid ((seen ++ [u]).length = seen.length + 1) := Lib.hid (by simp)
                      have HZ3 := Lib.hid hz3
                      clear HZ HQ HG HB HFw HBack cg cf b2 hz hG2 back2 s1' s2' s3' eg HC3 s1 s2 HBf HBk hz3 HU hru
                      generalize roomV t x v u = rr at *
                      go_wp2_with (at_builtin; refine wp_app1 rfl _ _ rfl (w.heap.size + 1) D seen.length cD _ rfl hQ3 _ rfl (by simp) (by omega) HZ3.out ?_; intro D2 cD2 w6 ho6 hg6 _; have HQ6 := Lib.hid ho6; have HB6 := Lib.hid (HB3.out.grown hg6 (Nat.le_trans (Nat.le_succ _) HZ3.out) (fun k hk => Nat.le_trans (Nat.le_succ _) (HR.out k hk))); have HZ6 : Hid (w.heap.size + 1 ≤ w6.heap.size) := Lib.hid (Nat.le_trans HZ3.out hg6.size); have HG6 : Hid (Vec w6 w.heap.size (w.heap.size + 1) (some ⟨w.heap.size, 0, none⟩) (n + m) (n + m) (fun z => if z = u then (v : Int) else g z)) := Lib.hid ⟨Own.far_gt HG3.out.own hg6 (fun k hk => by have := HR.out k hk; omega), HG3.out.top, HG3.out.small⟩; rw [← HS.out] at HQ6; clear ho6 hg6)
                      go_roundw
                      case rel => exact ⟨u + 1, D2, cD2, seen ++ [u], _, _, by omega, by go_num, by rw [HSL.out], by rw [HSL.out]; omega, by rw [HSL.out]; exact hlen, HV2, HBf2, HBk2, HD2, HZ2, by rw [HSL.out]; exact HQ6, HG6, HB6, HZ6.out⟩
                      case measure => simp [intOf]; omega
end Go.Proofs.Ytcjmapdeopffcaa
