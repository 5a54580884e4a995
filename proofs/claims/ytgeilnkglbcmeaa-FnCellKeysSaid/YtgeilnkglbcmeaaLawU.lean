/- What the walks of the laws over records use besides the contracts. -/
import Derived.Test.YtgeilnkglbcmeaaSetsL
namespace Go.Proofs.Ytgeilnkglbcmeaa
open Go.RowKit

theorem OwnV.sch {w : World} {lo hi : Nat} {A : Option Addr} {n c : Nat} {vs : List (ByteArray × Int)} (h : OwnV w lo hi A n c vs) (hs : ∀ j, j < n → (vN vs j).size ≤ 1099511627776) : SchR w A n c vs := by
  refine ⟨h.vars, hs, h.small, ?_⟩
  rcases h.own.2 with ⟨hv, h0⟩ | ⟨g, cap, cur, hv, _, _, hc, _⟩
  · injection hv with _ _ hc; omega
  · injection hv with _ _ hc'; omega
theorem OwnRc.dat {w : World} {lo hi : Nat} {A : Option Addr} {n c : Nat} {rs : List RecD} (h : OwnRc w lo hi A n c rs) (hs : ∀ j, j < n → (rV rs j).length ≤ 1099511627776) : DatR w A n rs := ⟨h.recs, hs, h.small⟩
theorem setL_le {vs : List (ByteArray × Int)} {us : List Int} {rs qs : List RecD} {n : Nat} (hl : qs.length = n) (hn : n ≤ 1048576) (j : Nat) : (setL vs us rs qs j).length ≤ 1048576 := by
  have := linkK_len (lnk vs us rs qs j) qs.length
  unfold setL
  omega
theorem lsN_le {vs : List (ByteArray × Int)} {us : List Int} {rs qs : List RecD} {n : Nat} (hl : rs.length = n) (hn : n ≤ 1048576) : lsN vs rs qs us ≤ 1048576 := by
  unfold lsN
  split <;> omega
end Go.Proofs.Ytgeilnkglbcmeaa
