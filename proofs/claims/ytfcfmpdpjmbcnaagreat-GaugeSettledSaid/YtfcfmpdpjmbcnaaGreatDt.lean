/- The law of growths (chapter 5). -/
import Derived.Test.YtfcfmpdpjmbcnaaGreatEs
import Derived.Test.YtfcfmpdpjmbcnaaGreatSg
set_option linter.unusedVariables false
set_option linter.unusedSimpArgs false
namespace Go.Proofs.YtfcfmpdpjmbcnaaGreat
open Go.RowKit
set_option maxRecDepth 20000
set_option maxHeartbeats 8000000

theorem gfst0_dup {u : Int} {l l2 : List Int} (h : fst0 l = u) (hu : u ≠ 0) : fst0 (l ++ l2) = u := by
  induction l with
  | nil => exact absurd h.symm hu
  | cons a l ih =>
    by_cases ha : a = 0
    · subst ha
      exact ih h
    · rw [List.cons_append, fst0_ne ha]
      rw [fst0_ne ha] at h
      exact h
theorem gsrE_eq {c : List Rg} {den : Int} {x : List Int} {cs : List (List Int)} (h : loE c den = 0) : srE c den x cs = bif sxE c x == 0 then ckE c cs else sxE c x := by
  have e : srH c den x cs = fst0 ([unl (decide ((x.length : Int) = (c.length : Int))) 10, unl (!x.any fun n => !inR n (-100) 100) 2] ++ [unl (decide ((cs.length : Int) ≤ 8)) 8]) := by
    unfold srH
    rw [h]; rfl
  by_cases hx : sxE c x = 0
  · have hx' : fst0 [unl (decide ((x.length : Int) = (c.length : Int))) 10, unl (!x.any fun n => !inR n (-100) 100) 2] = 0 := hx
    obtain ⟨k1, k2⟩ := fst0_cons hx'
    rw [fst0_one] at k2
    have e2 : srH c den x cs = unl (decide ((cs.length : Int) ≤ 8)) 8 := by
      rw [e, k1, k2]
      exact (fst0_zero _).trans ((fst0_zero _).trans (fst0_one _))
    unfold srE
    rw [e2, hx]
    unfold ckE
    cases decide ((cs.length : Int) ≤ 8) <;> rfl
  · have e2 : srH c den x cs = sxE c x := by
      rw [e]
      exact gfst0_dup rfl hx
    unfold srE
    rw [e2, beq0f hx]; rfl
end Go.Proofs.YtfcfmpdpjmbcnaaGreat
