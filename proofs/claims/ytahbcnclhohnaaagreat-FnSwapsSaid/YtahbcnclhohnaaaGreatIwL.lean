/- SwapPlan of both sides, in the laws' form. -/
import Derived.Test.YtahbcnclhohnaaaGreatIwC
import Derived.Test.YtahbcnclhohnaaaGreatCert
import Derived.Test.YtahbcnclhohnaaaGreatZg
namespace Go.Proofs.YtahbcnclhohnaaaGreat
open Go.RowKit

def spV (vs : List (ByteArray × Int)) (rs : List RecD) (us : List Int) (most sd : Int) : List (List Int) := (planV vs rs us most sd).getD []
def spB (vs : List (ByteArray × Int)) (rs : List RecD) (us : List Int) (most sd : Int) : Bool := (planV vs rs us most sd).isSome
theorem spV_in (vs : List (ByteArray × Int)) (rs : List RecD) (us : List Int) (most sd : Int) : (spV vs rs us most sd).length ≤ 60 ∧ ∀ r, r ∈ spV vs rs us most sd → r.length ≤ 2 := by
  unfold spV planV
  split
  · rename_i h
    cases hM : shufT sd ((planC vs rs us).length - 1) (iota (planC vs rs us).length) 0 with
    | none => simp
    | some p =>
      show (spR (planC vs rs us) (spSt (planC vs rs us) most p.1 (planC vs rs us).length).ch (planC vs rs us).length).length ≤ 60 ∧ _
      have h1 := spK_len (spSt (planC vs rs us) most p.1 (planC vs rs us).length).ch (planC vs rs us).length
      refine ⟨by rw [spR_len]; omega, fun r hr => ?_⟩
      have hr : r ∈ spR (planC vs rs us) (spSt (planC vs rs us) most p.1 (planC vs rs us).length).ch (planC vs rs us).length := hr
      unfold spR at hr
      obtain ⟨k, hk, rfl⟩ := List.mem_map.1 hr
      have hkl : k < (planC vs rs us).length := by
        unfold spK at hk
        rw [List.mem_filter, List.mem_range] at hk
        exact hk.1
      rw [List.getElem?_eq_getElem hkl, Option.getD_some]
      have h9 : (planC vs rs us)[k] ∈ planC vs rs us := List.getElem_mem hkl
      generalize (planC vs rs us)[k] = r at *
      unfold planC at h9
      obtain ⟨i, j, e, _, _⟩ := candT_mem _ (Nat.le_refl _) h9
      rw [e]
      simp
  · simp
theorem spV_row (vs : List (ByteArray × Int)) (rs : List RecD) (us : List Int) (most sd : Int) (j : Nat) : ((spV vs rs us most sd)[j]?.getD []).length ≤ 1048576 := by
  rcases Nat.lt_or_ge j (spV vs rs us most sd).length with h | h
  · rw [List.getElem?_eq_getElem h, Option.getD_some]
    have := (spV_in vs rs us most sd).2 _ (List.getElem_mem h)
    omega
  · rw [List.getElem?_eq_none h]
    simp
theorem spV_le (vs : List (ByteArray × Int)) (rs : List RecD) (us : List Int) (most sd : Int) : (spV vs rs us most sd).length ≤ 1048576 := by
  have := (spV_in vs rs us most sd).1
  omega
theorem implSwapPlan_law (sd most : Int) (A B U : Option Addr) (n c m d l k' : Nat) (vs : List (ByteArray × Int)) (rs : List RecD) (us : List Int) (w : World) (hx : SchR w A n c vs) (hy : DatR w B m rs) (hu : IntR w U l us) :
    Calls Tryz.prog 6 #[.slice A n c, .slice B m d, .slice U l k', .int .i64 most, .int .i64 sd] w (RetLL w (spV vs rs us most sd) (spB vs rs us most sd)) := implSwapPlan_any A B U n c m d l k' most sd vs rs us w hx hy hu
theorem specSwapPlan_law (sd most : Int) (A B U : Option Addr) (n c m d l k' : Nat) (vs : List (ByteArray × Int)) (rs : List RecD) (us : List Int) (w : World) (hx : SchR w A n c vs) (hy : DatR w B m rs) (hu : IntR w U l us) :
    Calls Tryz.prog 7 #[.slice A n c, .slice B m d, .slice U l k', .int .i64 most, .int .i64 sd] w (RetLL w (spV vs rs us most sd) (spB vs rs us most sd)) := swapPlan_any A B U n c m d l k' most sd vs rs us w hx hy hu
end Go.Proofs.YtahbcnclhohnaaaGreat
