/- The law FlatSettings: what it answers. -/
import Derived.Test.YtagpmpbmfjaiiaaPx
set_option linter.unusedVariables false
set_option linter.unusedSimpArgs false
namespace Go.Proofs.Ytagpmpbmfjaiiaa
open Go.RowKit
set_option maxRecDepth 20000
set_option maxHeartbeats 8000000

theorem actE_ok {n : Nat} {a : Act3} (h : actE n a = 0) : (-10 ≤ a.lo ∧ a.lo ≤ 10) ∧ (-10 ≤ a.hi ∧ a.hi ≤ 10) ∧ a.lo ≤ a.hi ∧ a.eff.length = n ∧ ∀ x ∈ a.eff, -1000 ≤ x ∧ x ≤ 1000 := by
  obtain ⟨h1, h⟩ := fst0_cons h
  obtain ⟨h2, h⟩ := fst0_cons h
  obtain ⟨h3, h⟩ := fst0_cons h
  obtain ⟨h4, _⟩ := fst0_cons h
  have h1 := unl_ok (by decide) h1
  simp only [Bool.and_eq_true] at h1
  have h2 := of_decide_eq_true (unl_ok (by decide) h2)
  have h3 := of_decide_eq_true (unl_ok (by decide) h3)
  have h4 := all_of_any (unl_ok (by decide) h4)
  exact ⟨inR_iff.1 h1.1, inR_iff.1 h1.2, h2, by omega, fun x hx => inR_iff.1 (h4 x hx)⟩
theorem actsE_ok {n : Nat} : ∀ (A : List Act3) (k : Nat), (actsE n A k).2 = 0 → actsE n A k = (0, 0) ∧ ∀ a ∈ A, actE n a = 0
  | [], _, _ => ⟨rfl, fun a h => by simp at h⟩
  | x :: A, k, h => by
    by_cases hx : actE n x = 0
    · rw [actsE_zero hx] at h ⊢
      obtain ⟨h1, h2⟩ := actsE_ok A (k + 1) h
      refine ⟨h1, fun a ha => ?_⟩
      rcases List.mem_cons.1 ha with rfl | ha
      · exact hx
      · exact h2 a ha
    · rw [actsE_ne hx] at h; exact absurd h hx
theorem rulE_ok {T : List Int} {A : List Act3} (h : (rulE T A).2 = 0) : rulE T A = (0, 0) ∧ RulOk T A := by
  by_cases h0 : rulH T A = 0
  · have hr : rulE T A = actsE T.length A 0 := by unfold rulE; rw [h0]; rfl
    rw [hr] at h ⊢
    obtain ⟨h1, h2⟩ := actsE_ok A 0 h
    obtain ⟨g1, h0⟩ := fst0_cons h0
    obtain ⟨g2, h0⟩ := fst0_cons h0
    obtain ⟨g3, h0⟩ := fst0_cons h0
    obtain ⟨g4, h0⟩ := fst0_cons h0
    obtain ⟨g5, _⟩ := fst0_cons h0
    have g1 := of_decide_eq_true (unl_ok (by decide) g1)
    have g2 := of_decide_eq_true (unl_ok (by decide) g2)
    have g3 := all_of_any (unl_ok (by decide) g3)
    have g4 := of_decide_eq_true (unl_ok (by decide) g4)
    have g5 := of_decide_eq_true (unl_ok (by decide) g5)
    exact ⟨h1, by omega, by omega, fun x hx => inR_iff.1 (g3 x hx), by omega, by omega, fun a ha => actE_ok (h2 a ha)⟩
  · rw [rulE_h (e := rulH T A) rfl h0] at h; exact absurd h h0
theorem RulOk.len {T : List Int} {A : List Act3} (h : RulOk T A) : LenOk T A := ⟨by have := h.t9; omega, by have := h.a3; omega, fun a ha => by have := (h.b a ha).2.2.2.1; have := h.t9; omega⟩

/-- One of the first k settings is out of range. -/
def outTo (A : List Act3) (xs : List Int) : Nat → Bool
  | 0 => false
  | k + 1 => outTo A xs k || !inR (nth xs k) (A.getD k a0).lo (A.getD k a0).hi
theorem outTo_mono {A : List Act3} {xs : List Int} {k : Nat} (h : outTo A xs k = true) : ∀ n, outTo A xs (k + n) = true
  | 0 => h
  | n + 1 => by show (outTo A xs (k + n) || _) = true; rw [outTo_mono h n]; rfl
theorem outTo_in {A : List Act3} {xs : List Int} : ∀ n, outTo A xs n = false → ∀ k, k < n → inR (nth xs k) (A.getD k a0).lo (A.getD k a0).hi = true
  | 0, _, k, hk => by omega
  | n + 1, h, k, hk => by
    obtain ⟨h1, h2⟩ := Bool.or_eq_false_iff.1 h
    by_cases e : k = n
    · subst e; simpa using h2
    · exact outTo_in n h1 k (by omega)
/-- The error of settings. -/
def setE (A : List Act3) (xs : List Int) : Int := bif decide ((xs.length : Int) = A.length) then (bif outTo A xs A.length then 22 else 0) else 10
theorem setE_len {A : List Act3} {xs : List Int} (h : ¬ (xs.length : Int) = A.length) : setE A xs = 10 := by unfold setE; rw [decide_eq_false h]; rfl
theorem setE_out {A : List Act3} {xs : List Int} (h : (xs.length : Int) = A.length) : setE A xs = bif outTo A xs A.length then 22 else 0 := by unfold setE; rw [decide_eq_true h]; rfl
theorem setE_ok {A : List Act3} {xs : List Int} (h : setE A xs = 0) : xs.length = A.length ∧ ∀ k, k < A.length → (A.getD k a0).lo ≤ nth xs k ∧ nth xs k ≤ (A.getD k a0).hi := by
  by_cases hl : (xs.length : Int) = A.length
  · rw [setE_out hl] at h
    cases ho : outTo A xs A.length
    · exact ⟨by omega, fun k hk => inR_iff.1 (outTo_in _ ho k hk)⟩
    · rw [ho] at h; cases h
  · rw [setE_len hl] at h; cases h
theorem setE_SetOk {T : List Int} {A : List Act3} {xs : List Int} (hr : RulOk T A) (h : setE A xs = 0) : SetOk A xs := by
  obtain ⟨h1, h2⟩ := setE_ok h
  refine ⟨h1, fun x hx => ?_⟩
  obtain ⟨i, hi, rfl⟩ := List.mem_iff_getElem.1 hx
  have h3 := h2 i (by omega)
  have h4 := hr.b _ (act_mem (A := A) (k := i) (by omega))
  have h5 : nth xs i = xs[i] := by unfold nth; rw [List.getD_eq_getElem?_getD, List.getElem?_eq_getElem hi]; rfl
  omega
/-- The error of rules and settings. -/
def rsE (T : List Int) (A : List Act3) (xs : List Int) : Int := bif (rulE T A).2 == 0 then setE A xs else (rulE T A).2
theorem rsE_r {T : List Int} {A : List Act3} {xs : List Int} (h : (rulE T A).2 ≠ 0) : rsE T A xs = (rulE T A).2 := by
  unfold rsE; rw [show ((rulE T A).2 == 0) = false from beq_eq_false_iff_ne.2 h]; rfl
theorem rsE_s {T : List Int} {A : List Act3} {xs : List Int} (h : (rulE T A).2 = 0) : rsE T A xs = setE A xs := by
  unfold rsE; rw [h]; rfl
/-- All deviations. -/
def devL (T : List Int) (A : List Act3) (xs : List Int) : List Int := lst (devP T A xs) T.length
end Go.Proofs.Ytagpmpbmfjaiiaa
