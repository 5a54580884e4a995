/- What both sides answer, as the law wants it. -/
import Derived.Test.YtcjmapdeopffcaaSdJ
namespace Go.Proofs.Ytcjmapdeopffcaa
open Go.RowKit Flo
set_option linter.unusedVariables false

/-- What the law asks of a rounding that was found. -/
structure SrOk (n : Nat) (L : Nat → List Int) (b : Int) (N : Nat) (K : Nat → List Int) (rs cs : List Int) (t : Int) : Prop where
  hn : N = n
  b2 : 2 ≤ b
  b100 : b ≤ 100
  gd : (inR b 2 100 && mxB n L) = true
  mx : mxB n L = true
  rnd : RndQ n L b N K rs cs t
  sh : ∀ i, i < n → (K i).length = (L 0).length
  near : ∀ i, i < n → ∀ j, j < (L 0).length → Near b (fnL L i j) (fnL K i j)
theorem fnL_row {m : Nat} {Y : Nat → Nat → Int} {i j : Nat} (hj : j < m) : fnL (fun i => lst m (Y i)) i j = Y i j := by
  unfold fnL
  rw [lst_get hj]
theorem srOk_of {n : Nat} {L : Nat → List Int} {b sd : Int} {Y : Nat → Nat → Int} (h : rndL n L b sd = some Y) : SrOk n L b n (fun i => lst (L 0).length (Y i)) (lst n (rowS (L 0).length Y)) (lst (L 0).length (colS n Y)) (totS n (L 0).length Y) := by
  unfold rndL at h
  split at h
  case isFalse => cases h
  case isTrue hg =>
    have hb := hg.1
    rw [Bool.and_eq_true] at hb
    obtain ⟨hn1, hn7, hm1, hm7, hsh, hxb⟩ := mxB_of hb.2
    have hbb := inR_of hb.1
    have hM : MxB n (L 0).length b (fnL L) := ⟨hn1, hn7, hm1, hm7, hbb.1, hbb.2, hxb⟩
    obtain ⟨k1, k2, k3, k4⟩ := rnd_near hM h
    have e1 : ∀ i, i < n → rowS (L 0).length (fnL (fun i => lst (L 0).length (Y i))) i = rowS (L 0).length Y i := fun i _ => rowS_fn fun j hj => fnL_row hj
    have e2 : ∀ j, j < (L 0).length → colS n (fnL (fun i => lst (L 0).length (Y i))) j = colS n Y j := fun j hj => colS_fn fun i _ => fnL_row hj
    have e3 : totS n (L 0).length (fnL (fun i => lst (L 0).length (Y i))) = totS n (L 0).length Y := totS_fn fun i j _ hj => fnL_row hj
    refine ⟨rfl, hbb.1, hbb.2, hg.1, hb.2, ⟨hg.1, ⟨rfl, fun i _ => lst_len _ _, lst_len _ _, lst_len _ _, fun i hi j hj => ?_, ?_, ?_, e3.symm, fun i hi => ?_, fun j hj => ?_, k4⟩⟩, fun i _ => lst_len _ _, fun i hi j hj => ?_⟩
    · rw [fnL_row hj]; exact k1 i hi j hj
    · exact lst_congr fun i hi => (e1 i hi).symm
    · exact lst_congr fun j hj => (e2 j hj).symm
    · rw [lst_get hi]; exact k2 i hi
    · rw [lst_get hj]; exact k3 j hj
    · rw [fnL_row hj]; exact k1 i hi j hj
theorem sr_law (n : Nat) (L : Nat → List Int) (b sd : Int) (hn : n ≤ 1099511627776) (hL : ∀ j, j < n → (L j).length ≤ 1099511627776) :
    ∃ (N M : Nat) (K : Nat → List Int) (rs cs : List Int) (t : Int) (ok : Bool), N ≤ 1000 ∧ M ≤ 1000 ∧ (∀ j, j < N → (K j).length ≤ 1000) ∧ (ok = true → SrOk n L b N K rs cs t) ∧
      (∀ (A : Option Addr) (c : Nat) (w : World), IntsS w A n L → Calls Try.prog 6 #[.slice A n c, .int .i64 b, .int .i64 sd] w (RetC w N M K rs cs t ok)) ∧
      (∀ (A : Option Addr) (c : Nat) (w : World), IntsS w A n L → Calls Try.prog 8 #[.slice A n c, .int .i64 b, .int .i64 sd] w (RetC w N M K rs cs t ok)) := by
  obtain ⟨o, ho⟩ : ∃ o, o = rndL n L b sd := ⟨_, rfl⟩
  have hb : ∀ Y, o = some Y → n ≤ 7 ∧ (L 0).length ≤ 7 ∧ SrOk n L b n (fun i => lst (L 0).length (Y i)) (lst n (rowS (L 0).length Y)) (lst (L 0).length (colS n Y)) (totS n (L 0).length Y) := fun Y h => by
    have h1 := srOk_of (ho.symm.trans h)
    obtain ⟨_, h2, _, h3, _⟩ := mxB_of h1.mx
    exact ⟨h2, h3, h1⟩
  refine ⟨oN n o, oN (L 0).length o, oL (L 0).length o, oR n (L 0).length o, oC n (L 0).length o, oT n (L 0).length o, oK o, ?_, ?_, ?_, ?_, fun A c w hx => (specSR_any A n c b sd L w hx hn hL).mono fun e w' h => ?_, fun A c w hx => (implSR_any A n c b sd L w hx hn hL).mono fun e w' h => ?_⟩
  · cases o with
    | none => exact Nat.zero_le _
    | some Y => have := (hb Y rfl).1; show n ≤ 1000; omega
  · cases o with
    | none => exact Nat.zero_le _
    | some Y => have := (hb Y rfl).2.1; show (L 0).length ≤ 1000; omega
  · cases o with
    | none => exact fun j hj => absurd hj (Nat.not_lt_zero _)
    | some Y => exact fun j _ => by show (lst _ _).length ≤ 1000; rw [lst_len]; have := (hb Y rfl).2.1; omega
  · cases o with
    | none => exact fun h => Bool.noConfusion h
    | some Y => exact fun _ => (hb Y rfl).2.2
  · rw [ho]; exact h.c
  · rw [ho]; exact h.c
/-- What the law asks of margins. -/
def MgOk (N M : Nat) (rs cs : List Int) (t : Int) : Prop := ∃ f g : Nat → Int, rs = lst N f ∧ cs = lst M g ∧ (∀ k, k < N → 0 ≤ f k ∧ f k ≤ 1000000000) ∧ (∀ k, k < M → 0 ≤ g k ∧ g k ≤ 1000000000) ∧ sm N f = t ∧ sm M g = t
theorem mg_law (n : Nat) (L : Nat → List Int) (hn : n ≤ 1099511627776) (hL : ∀ j, j < n → (L j).length ≤ 1099511627776) :
    ∃ (N M : Nat) (K : Nat → List Int) (rs cs : List Int) (t : Int) (ok : Bool), N ≤ 1000 ∧ M ≤ 1000 ∧ (∀ j, j < N → (K j).length ≤ 1000) ∧ (ok = true → MgOk N M rs cs t) ∧
      (∀ (A : Option Addr) (c : Nat) (w : World), IntsS w A n L → Calls Try.prog 22 #[.slice A n c] w (RetC w N M K rs cs t ok)) ∧
      (∀ (A : Option Addr) (c : Nat) (w : World), IntsS w A n L → Calls Try.prog 21 #[.slice A n c] w (RetC w N M K rs cs t ok)) := by
  obtain ⟨o, ho⟩ : ∃ o, o = mxO n L := ⟨_, rfl⟩
  have hb : ∀ Y, o = some Y → n ≤ 7 ∧ (L 0).length ≤ 7 ∧ Y = fnL L ∧ mxB n L = true := fun Y h => by
    rw [ho] at h
    unfold mxO at h
    split at h
    case isTrue hg =>
      obtain ⟨_, h2, _, h3, _⟩ := mxB_of hg
      exact ⟨h2, h3, (Option.some.inj h).symm, hg⟩
    case isFalse => cases h
  refine ⟨oN n o, oN (L 0).length o, oL (L 0).length o, oR n (L 0).length o, oC n (L 0).length o, oT n (L 0).length o, oK o, ?_, ?_, ?_, ?_, fun A c w hx => (specMargins_any A n c L w hx hn hL).mono fun e w' h => ?_, fun A c w hx => (implMargins_any A n c L w hx hn hL).mono fun e w' h => ?_⟩
  · cases o with
    | none => exact Nat.zero_le _
    | some Y => have := (hb Y rfl).1; show n ≤ 1000; omega
  · cases o with
    | none => exact Nat.zero_le _
    | some Y => have := (hb Y rfl).2.1; show (L 0).length ≤ 1000; omega
  · cases o with
    | none => exact fun j hj => absurd hj (Nat.not_lt_zero _)
    | some Y => exact fun j _ => by show (lst _ _).length ≤ 1000; rw [lst_len]; have := (hb Y rfl).2.1; omega
  · cases o with
    | none => exact fun h => Bool.noConfusion h
    | some Y =>
      intro _
      obtain ⟨hn7, hm7, rfl, hm⟩ := hb Y rfl
      obtain ⟨hn1, _, hm1, _, hsh, hxb⟩ := mxB_of hm
      have hx : ∀ i j, i < n → j < (L 0).length → 0 ≤ fnL L i j ∧ fnL L i j ≤ 1000000 := fun i j hi hj => by have := hxb i j hi hj; unfold fnL; omega
      obtain ⟨h1, h2, _, _⟩ := rndBd (by omega) (by omega) hx
      exact ⟨_, _, rfl, rfl, fun k hk => by have := h1 k hk; omega, fun k hk => by have := h2 k hk; omega, rfl, tot_cols _ _ _⟩
  · rw [ho]; exact h
  · rw [ho]; exact h
end Go.Proofs.Ytcjmapdeopffcaa
