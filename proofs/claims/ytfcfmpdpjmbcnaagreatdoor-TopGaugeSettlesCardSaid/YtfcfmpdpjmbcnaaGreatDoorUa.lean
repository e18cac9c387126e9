/- Stands: which are valid, the exit thickness. -/
import Derived.Test.YtfcfmpdpjmbcnaaGreatDoorPb
import Derived.Test.YtfcfmpdpjmbcnaaGreatDoorUv
import Derived.Test.YtfcfmpdpjmbcnaaGreatDoorM9
set_option linter.unusedVariables false
set_option linter.unusedSimpArgs false
namespace Go.Proofs.YtfcfmpdpjmbcnaaGreatDoor
open Go.RowKit
set_option maxRecDepth 20000
set_option maxHeartbeats 8000000

def frcR (n d : Int) : Fr × Int := bif inR (low n d).1 (-1000000000) 1000000000 && decide ((low n d).2 ≤ 1000000000) then (low n d, 0) else ((0, 0), 8)
theorem fraction_A (a b : Int) (ha : Sm a) (hb : 0 < b) (hb2 : b ≤ 9223372036854775807) : AC Tryz.prog 56 [I a, I b] (.tuple [F2 (frcR a b).1, I (frcR a b).2]) := by
  have h1 := lowest_A a b ha hb hb2
  have h2 := isSized_A (low a b).1 1000000000 ⟨by decide, by decide⟩
  cases h3 : inR (low a b).1 (-1000000000) 1000000000
  · have e : frcR a b = ((0, 0), 8) := by unfold frcR; rw [h3]; rfl
    rw [e]
    rw [h3] at h2
    refine ac_body Tryz.func56 rfl (by kernel_rfl) fun w0 ok => ?_; show AWp _ (ctx0 w0 ok _) _ (ARet _ _ _) (entry _)
    exact zF
  · rw [h3] at h2
    by_cases h4 : (low a b).2 ≤ 1000000000
    · have e : frcR a b = (low a b, 0) := by unfold frcR; rw [h3, decide_eq_true h4]; rfl
      rw [e]
      refine ac_body Tryz.func56 rfl (by kernel_rfl) fun w0 ok => ?_; show AWp _ (ctx0 w0 ok _) _ (ARet _ _ _) (entry _)
      exact zF
    · have e : frcR a b = ((0, 0), 8) := by unfold frcR; rw [h3, decide_eq_false h4]; rfl
      rw [e]
      refine ac_body Tryz.func56 rfl (by kernel_rfl) fun w0 ok => ?_; show AWp _ (ctx0 w0 ok _) _ (ARet _ _ _) (entry _)
      exact zF
theorem less_A (a b : Fr) (h1 : Sm (a.1 * b.2)) (h2 : Sm (b.1 * a.2)) : AC Tryz.prog 104 [F2 a, F2 b] (B (fLt a b)) := by
  obtain ⟨h3, h4⟩ := h1
  obtain ⟨h5, h6⟩ := h2
  refine ac_body Tryz.func104 rfl (by kernel_rfl) fun w0 ok => ?_; show AWp _ (ctx0 w0 ok _) _ (ARet _ _ _) (entry _)
  exact zF
structure Std where
  ml : Int
  mh : Int
  pl : Int
  ph : Int
/-! The reference. -/
end Go.Proofs.YtfcfmpdpjmbcnaaGreatDoor
