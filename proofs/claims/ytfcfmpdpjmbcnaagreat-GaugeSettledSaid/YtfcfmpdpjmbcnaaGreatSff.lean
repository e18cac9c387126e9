/- The run of a loop. -/
import Derived.Test.YtfcfmpdpjmbcnaaGreatSe
import Derived.Test.YtfcfmpdpjmbcnaaGreatSc
set_option linter.unusedVariables false
set_option linter.unusedSimpArgs false
namespace Go.Proofs.YtfcfmpdpjmbcnaaGreat
open Go.RowKit
set_option maxRecDepth 20000
set_option maxHeartbeats 8000000

theorem bB8 {t : Nat} (h : t ≤ 8) : bB t ≤ 1000000000000000 := Nat.le_trans (bB_mono h) (by decide)
theorem pow10N {t : Nat} (h : t ≤ 9) : 10 ^ t ≤ 1000000000 := Nat.le_trans (Nat.pow_le_pow_right (by decide) h) (by decide)
theorem pow_rng {den : Int} (h : 1 ≤ den ∧ den ≤ 10) {t : Nat} (ht : t ≤ 9) : 1 ≤ den ^ t ∧ den ^ t ≤ 1000000000 := by
  have h1 := pow_pos h.1 t
  have h2 := Nat.le_trans (pow_le10 h t) (pow10N ht)
  omega
/-- What is valid for a run. -/
structure RnOk (c : List Rg) (den : Int) (x : List Int) (cs : List (List Int)) (dz : List Int) : Prop where
  lo : LoopOk c den
  xl : x.length = c.length
  xb : ∀ i, (nth x i).natAbs ≤ 100
  cl : cs.length ≤ 8
  cf : CfOk x.length cs
  dl : dz.length = cs.length
  db : ∀ t, (nth dz t).natAbs ≤ 100
theorem any_sized {x : List Int} (h : (!x.any fun n => !inR n (-100) 100) = true) (i : Nat) : (nth x i).natAbs ≤ 100 := by
  by_cases hi : i < x.length
  · have := all_of_any h _ (nth_mem hi)
    have := inR_true.1 this
    omega
  · have : nth x i = 0 := by unfold nth; rw [List.getD_eq_getElem?_getD, List.getElem?_eq_none (by omega)]; rfl
    omega
theorem nth_out {l : List Int} {i : Nat} (h : ¬ i < l.length) : nth l i = 0 := by unfold nth; rw [List.getD_eq_getElem?_getD, List.getElem?_eq_none (by omega)]; rfl
theorem srE_ok {c : List Rg} {den : Int} {x : List Int} {cs : List (List Int)} (h : srE c den x cs = 0) : loE c den = 0 ∧ x.length = c.length ∧ (∀ i, (nth x i).natAbs ≤ 100) ∧ cs.length ≤ 8 ∧ cfE c cs = 0 := by
  unfold srE at h
  by_cases h0 : srH c den x cs = 0
  · rw [h0] at h
    obtain ⟨k1, h2⟩ := fst0_cons h0
    obtain ⟨k2, h3⟩ := fst0_cons h2
    obtain ⟨k3, h4⟩ := fst0_cons h3
    rw [fst0_one] at h4
    have k2 := of_decide_eq_true (unl_ok (by decide) k2)
    have k4 := of_decide_eq_true (unl_ok (by decide) h4)
    exact ⟨k1, by omega, any_sized (unl_ok (by decide) k3), by omega, h⟩
  · rw [beq0f h0] at h; exact absurd h h0
theorem cf_ok {c : List Rg} {den : Int} (hl : LoopOk c den) {cs : List (List Int)} (h : cfE c cs = 0) : CfOk c.length cs := by
  refine ⟨fun t ht => (cfE1_ok (cfE_ok h t ht)).1, fun t i => ?_⟩
  by_cases ht : t < cs.length
  · obtain ⟨h1, h2⟩ := cfE1_ok (cfE_ok h t ht)
    by_cases hi : i < c.length
    · have h3 := h2 i hi
      have h4 := hl.b _ (rg_mem hi)
      omega
    · rw [nth_out (by omega)]; decide
  · rw [getD_out [] (by omega), nth_out (by simp)]; decide
end Go.Proofs.YtfcfmpdpjmbcnaaGreat
