/- The smallest box that is kept: walk. -/
import Derived.Test.YtfcfmpdpjmbcnaaGreatDoorUh
set_option linter.unusedVariables false
set_option linter.unusedSimpArgs false
namespace Go.Proofs.YtfcfmpdpjmbcnaaGreatDoor
open Go.RowKit
set_option maxRecDepth 20000
set_option maxHeartbeats 8000000

def BxL (L : List Lp) (B : List (Int × Int)) : Prop := B.length = L.length ∧ ∀ i, i < L.length → bLo B i ≤ bHi B i ∧ inL L B i = true
theorem BxL.small {L : List Lp} (hL : ∀ x ∈ L, LpOk x) {B : List (Int × Int)} (h : BxL L B) : BxS L B := ⟨h.1, fun j hj => by
  have h1 := inL_iff.1 (h.2 j hj).2
  have hx := hL _ (lpA_mem hj)
  have h2 := hx.l1
  have h3 := hx.l2
  omega⟩
end Go.Proofs.YtfcfmpdpjmbcnaaGreatDoor
