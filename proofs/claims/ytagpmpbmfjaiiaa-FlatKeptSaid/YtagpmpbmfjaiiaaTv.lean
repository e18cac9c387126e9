/- Tolerances: the reference: walks. -/
import Derived.Test.YtagpmpbmfjaiiaaTu
import Derived.Test.YtagpmpbmfjaiiaaPy
import Derived.Test.YtagpmpbmfjaiiaaTt
set_option linter.unusedVariables false
set_option linter.unusedSimpArgs false
namespace Go.Proofs.Ytagpmpbmfjaiiaa
open Go.RowKit
set_option maxRecDepth 20000
set_option maxHeartbeats 8000000

abbrev iotI (k : Nat) : Int := (k : Int)
theorem maxTo_le {T : List Int} {A : List Act3} {xs : List Int} {m : Int} (hm : 0 ≤ m) : ∀ n, maxTo T A xs n ≤ m ↔ ∀ i, i < n → ((devP T A xs i).natAbs : Int) ≤ m
  | 0 => ⟨fun _ i hi => by omega, fun _ => hm⟩
  | n + 1 => by
    have h := maxTo_le (T := T) (A := A) (xs := xs) hm n
    have e : maxTo T A xs (n + 1) = max (maxTo T A xs n) ((devP T A xs n).natAbs : Int) := rfl
    rw [e]
    constructor
    · intro h1 i hi
      by_cases hin : i = n
      · subst hin; omega
      · exact h.1 (by omega) i (by omega)
    · intro h1
      have h2 := h.2 fun i hi => h1 i (by omega)
      have h3 := h1 n (by omega)
      omega
theorem slC_snoc2 (M : List (List Int)) (l : List Int) : slC M ++ [isl l] = slC (M ++ [l]) := by simp
theorem filter_take_succ {p : List Int → Bool} {L : List (List Int)} {k : Nat} (hk : k < L.length) : (L.take (k + 1)).filter p = (L.take k).filter p ++ (bif p (L.getD k []) then [L.getD k []] else []) := by
  rw [List.take_add_one, List.filter_append, List.getD_eq_getElem?_getD, List.getElem?_eq_getElem hk]
  cases h : p L[k]
  · simp [h]
  · simp [h]
theorem allS_len {T : List Int} {A : List Act3} (h : RulOk T A) : (allS A).length ≤ 9261 := by
  have h1 := allTo_len h A.length (Nat.le_refl _)
  rw [allTo_all] at h1
  have h2 : 21 ^ A.length ≤ 21 ^ 3 := Nat.pow_le_pow_right (by decide) h.a3
  exact Nat.le_trans h1 h2
end Go.Proofs.Ytagpmpbmfjaiiaa
