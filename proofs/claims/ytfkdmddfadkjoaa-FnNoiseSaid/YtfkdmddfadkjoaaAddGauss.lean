/- AddGauss, of the program. -/
import Derived.Test.YtfkdmddfadkjoaaNoiseV
import Derived.Test.YtfkdmddfadkjoaaGaussSample
namespace Go.Proofs.Ytfkdmddfadkjoaa
open Go.RowKit

/-- AddGauss's answer. -/
def addGauR (xs : List Int) (p q s : Int) : Option (List Int) := if numB xs 60 = true ∧ sigmaB p q = true ∧ inR s 0 4611686016279904236 = true then noiM (fun a => gauM s p q a) xs else none
theorem addGauR_1 {xs : List Int} {p q s : Int} (h : numB xs 60 = false) : addGauR xs p q s = none := by unfold addGauR; rw [if_neg (by simp [h])]
theorem addGauR_2 {xs : List Int} {p q s : Int} (h : sigmaB p q = false) : addGauR xs p q s = none := by unfold addGauR; rw [if_neg (by simp [h])]
theorem addGauR_3 {xs : List Int} {p q s : Int} (h : inR s 0 4611686016279904236 = false) : addGauR xs p q s = none := by unfold addGauR; rw [if_neg (by simp [h])]
theorem addGauR_4 {xs : List Int} {p q s : Int} (h : numB xs 60 = true) (h2 : sigmaB p q = true) (h3 : inR s 0 4611686016279904236 = true) : addGauR xs p q s = noiM (fun a => gauM s p q a) xs := by unfold addGauR; rw [if_pos ⟨h, h2, h3⟩]

set_option maxHeartbeats 800000 in
theorem addGaussClo_any (g gc : Nat) (s a p q : Int) (w : World) (h : StrAt w g s a) (h0 : 0 ≤ a) (h1 : a ≤ 1000000) (hok : sigmaB p q = true) (hb : w.heap[gc]? = some (.cells #[.int .i64 p, .int .i64 q] 28 (0, 0))) :
    Calls Try.prog 94 #[.pointer (some ⟨g, 0, none⟩), .pointer (some ⟨gc, 0, none⟩)] w (SPost (Value.int .i64) g s (gauM s p q a) w) := by
  have c0 := box_cell hb 0 _ rfl
  have c1 := box_cell hb 1 _ rfl
  have HM : Hid (∀ w1 : World, w1 = w → Calls Try.prog 91 #[.pointer (some ⟨g, 0, none⟩), .agg #[.int .i64 p, .int .i64 q]] w1 (SPost (Value.int .i64) g s (gauM s p q a) w)) := Lib.hid fun w1 e => by subst e; exact gauss_any g s a p q _ h h0 h1 hok
  clear hok
  generalize gauM s p q a = R at *
  go_enter Try.func94, Try.ntmps94
  go_wp2_with fail
  refine (HM.out _ rfl).mono ?_
  rintro e w2 ⟨hyes, hno, hc⟩
  cases R with
  | none =>
    obtain ⟨z, a2, rfl, hs2⟩ := hno rfl
    clear hyes hno
    go_wp2
    go_ret2
    exact SPost.no rfl hs2 hc
  | some r =>
    obtain ⟨v, a2⟩ := r
    obtain ⟨rfl, hs2⟩ := hyes v a2 rfl
    clear hyes hno
    go_wp2
    go_ret2
    exact SPost.yes rfl hs2 hc

set_option maxRecDepth 100000 in
set_option maxHeartbeats 4000000 in
theorem implAddGauss_law (A : Option Addr) (n c : Nat) (xs : List Int) (p q s : Int) (w : World) (hx : Ints w A n xs) (hn : n ≤ 1099511627776) :
    Calls Try.prog 25 #[.slice A n c, .agg #[.int .i64 p, .int .i64 q], .int .i64 s] w (LPost (addGauR xs p q s) w) := by
  have hl := Lib.hid hx.1
  have HB : Hid (numB xs 60 = true → n ≤ 60 ∧ allN xs = true) := Lib.hid fun h => by have := numB_of h; have h2 := hx.1; exact ⟨by omega, this.2⟩
  have R1 := Lib.hid (addGauR_1 (xs := xs) (p := p) (q := q) (s := s))
  have R2 := Lib.hid (addGauR_2 (xs := xs) (p := p) (q := q) (s := s))
  have R3 := Lib.hid (addGauR_3 (xs := xs) (p := p) (q := q) (s := s))
  have R4 := Lib.hid (addGauR_4 (xs := xs) (p := p) (q := q) (s := s))
  generalize addGauR xs p q s = R at *
  have x0 := box_new w #[.int .i64 p, .int .i64 q] 28
  have b0 := below_new w (.cells #[.int .i64 p, .int .i64 q] 28)
  replace hx := hx.below b0
  have hmf : ∀ (fn : Fn) (first cap : Array Value) (w : World), (Instr.makeFunc fn first cap).run Try.prog w = .ok (.func fn first cap) w := fun _ _ _ _ => rfl
  go_enter Try.func25, Try.ntmps25
  go_wp2_with fail
  generalize w.alloc (.cells #[.int .i64 p, .int .i64 q] 28) = w0 at *
  refine (areNumbers_any _ _ _ xs _ _ hx hn).mono ?_
  rintro e w1 ⟨rfl, rfl⟩
  cases hA : numB xs 60
  · have E := Lib.hid (R1.out hA)
    clear hA R1 R2 R3 R4 HB
    go_wp2
    go_ret2
    exact LPost.no E.out b0
  · have HA := Lib.hid hA
    have hA2 := HB.out hA
    have hn1 := hA2.1
    have HA3 := Lib.hid hA2.2
    clear hA hA2 R1 HB
    have c0 := box_cell x0 0 _ rfl
    have c1 := box_cell x0 1 _ rfl
    go_wp2_with fail
    refine (isSigma2_any _ _ _).mono ?_
    rintro e w2 ⟨rfl, b2⟩
    replace x0 := box_below x0 b2
    replace hx := hx.below b2
    replace b0 := b0.trans (b2.mono b0.size)
    clear b2 c0 c1
    cases hC : sigmaB p q
    · have E := Lib.hid (R2.out hC)
      clear hC R2 R3 R4
      go_wp2
      go_ret2
      exact LPost.no E.out b0
    · have HC := Lib.hid hC
      clear hC R2
      go_wp2_with fail
      refine (isSeed_any _ _).mono ?_
      rintro e w3 ⟨rfl, rfl⟩
      cases hS : inR s 0 4611686016279904236
      · have E := Lib.hid (R3.out hS)
        clear hS R3 R4
        go_wp2
        go_ret2
        exact LPost.no E.out b0
      · have E := Lib.hid (R4.out HA.out HC.out hS)
        clear hS R3 R4
        go_wp2_with fail
        refine (withNoise_gauss w.heap.size _ s (fun a => gauM s p q a) _ _ _ xs _ hx (by omega) HA3.out x0 (fun a v b h h0 h1 => gauM_bd HC.out h h0 h1) (fun g a w' hs h0 h1 ho => addGaussClo_any g w.heap.size s a p q w' hs h0 h1 HC.out ho)).mono ?_
        rintro e w4 ⟨A', c', rfl, ho, hb⟩
        rw [← E.out] at ho ⊢
        have b4 := b0.trans (hb.mono b0.size)
        have ho2 := Lib.hid (OwnI.fit ho b0.size : OwnI w4 w.heap.size w4.heap.size _ _ _ _)
        clear ho hb
        go_wp2
        go_ret2
        exact ⟨A', c', rfl, ho2.out, b4⟩
end Go.Proofs.Ytfkdmddfadkjoaa
