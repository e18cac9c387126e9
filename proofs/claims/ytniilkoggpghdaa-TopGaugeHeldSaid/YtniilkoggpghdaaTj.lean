/- Boxes that are kept. Nothing of the program. -/
import Derived.Test.YtniilkoggpghdaaTf
import Derived.Test.YtniilkoggpghdaaTe
set_option linter.unusedVariables false
set_option linter.unusedSimpArgs false
namespace Go.Proofs.Ytniilkoggpghdaa
open Go.RowKit
set_option maxRecDepth 20000

theorem mvs_zero : ∀ {L : List Lp} {hs es : List Int}, hs.length = L.length → es.length = L.length → (∀ k, k < L.length → ((lpA L k).llo ≤ nth hs k ∧ nth hs k ≤ (lpA L k).lhi) ∧ (lpA L k).dlo ≤ nth es k ∧ nth es k ≤ (lpA L k).dhi) → mvs L hs es = 0
  | [], [], [], _, _, _ => rfl
  | [], _ :: _, _, h, _, _ => by simp at h
  | [], [], _ :: _, _, h, _ => by simp at h
  | x :: L, [], _, h1, _, _ => by simp at h1
  | x :: L, _ :: _, [], _, h2, _ => by simp at h2
  | x :: L, h :: hs, e :: es, h1, h2, hb => by
    have h0 := hb 0 (by simp)
    have e1 : inR h x.llo x.lhi = true := inR_true.2 h0.1
    have e2 : inR e x.dlo x.dhi = true := inR_true.2 h0.2
    unfold mvs
    rw [e1, e2]
    exact mvs_zero (by simpa using h1) (by simpa using h2) fun k hk => hb (k + 1) (by simpa using hk)
theorem csE_zero {L : List Lp} {hs es : List Int} (hc : (chE L).2 = 0) (h1 : hs.length = L.length) (h2 : es.length = L.length) (hb : ∀ k, k < L.length → ((lpA L k).llo ≤ nth hs k ∧ nth hs k ≤ (lpA L k).lhi) ∧ (lpA L k).dlo ≤ nth es k ∧ nth es k ≤ (lpA L k).dhi) : csE L hs es = 0 := by
  unfold csE mvE
  rw [beq0_t hc, decide_eq_true h1, decide_eq_true h2]
  exact mvs_zero h1 h2 hb
theorem bxEs_zero : ∀ {L : List Lp} {C : List Rg} {j : Nat}, C.length = L.length → (∀ k, k < L.length → bxE1 (L.getD k lp0) (C.getD k rg0) = 0) → bxEs L C j = (0, 0)
  | [], [], _, _, _ => rfl
  | [], _ :: _, _, h, _ => by simp at h
  | x :: L, [], _, h1, _ => by simp at h1
  | x :: L, r :: C, j, h1, h => by
    have h0 : bxE1 x r = 0 := h 0 (by simp)
    unfold bxEs
    rw [beq0_t h0]
    exact bxEs_zero (by simpa using h1) fun k hk => h (k + 1) (by simpa using hk)
theorem bxE_zero {L : List Lp} {C : List Rg} (hC : BxL L C) (hlv : ∀ i, i < L.length → lvA L C i = false) : bxE L C = (0, 0) := by
  have h0 : bxEs L C 0 = (0, 0) := bxEs_zero hC.1 fun k hk => by
    obtain ⟨h1, h2⟩ := hC.2 k hk
    have h3 := inL_iff.1 h2
    have e1 : decide ((C.getD k rg0).1 ≤ (C.getD k rg0).2) = true := decide_eq_true h1
    have e2 : inR (C.getD k rg0).1 (L.getD k lp0).llo (L.getD k lp0).lhi = true := inR_true.2 h3.1
    have e3 : inR (C.getD k rg0).2 (L.getD k lp0).llo (L.getD k lp0).lhi = true := inR_true.2 h3.2
    unfold bxE1
    rw [e1, e2, e3]; rfl
  unfold bxE
  rw [decide_eq_true hC.1, h0, fstI_neg hlv]; rfl
theorem bxE_kept {L : List Lp} {C : List Rg} (h : (bxE L C).2 = 0) : BxL L C ∧ ∀ i, i < L.length → lvA L C i = false := by
  unfold bxE at h
  by_cases h1 : C.length = L.length
  rotate_left
  · rw [decide_eq_false h1] at h
    exact absurd (show (10 : Int) = 0 from h) (by decide)
  rw [decide_eq_true h1] at h
  by_cases h2 : (bxEs L C 0).2 = 0
  rotate_left
  · rw [beq0_f h2] at h
    exact absurd h h2
  rw [beq0_t h2] at h
  by_cases h3 : fstI (lvA L C) L.length < 0
  · exact ⟨bxEs_box h1 h2, is_neg h3⟩
  · rw [decide_eq_false h3] at h
    exact absurd (show (19 : Int) = 0 from h) (by decide)
/-- Whether a start lies in a box, as far as it was looked. -/
def aB (xs : List Int) (C : List Rg) (b : Bool) : Nat → Bool
  | 0 => b
  | k + 1 => aB xs C b k && inR (nth xs k) (C.getD k rg0).1 (C.getD k rg0).2
theorem aB_false {xs : List Int} {C : List Rg} {b : Bool} {k : Nat} (h : aB xs C b k = false) : ∀ d, aB xs C b (k + d) = false
  | 0 => h
  | d + 1 => by
    show (aB xs C b (k + d) && _) = false
    rw [aB_false h d]; rfl
theorem aB_true {xs : List Int} {C : List Rg} {b : Bool} : ∀ {n : Nat}, aB xs C b n = true → b = true ∧ ∀ i, i < n → (C.getD i rg0).1 ≤ nth xs i ∧ nth xs i ≤ (C.getD i rg0).2
  | 0, h => ⟨h, fun i hi => absurd hi (Nat.not_lt_zero i)⟩
  | n + 1, h => by
    unfold aB at h
    rw [Bool.and_eq_true, inR_true] at h
    obtain ⟨h1, h2⟩ := aB_true h.1
    refine ⟨h1, fun i hi => ?_⟩
    by_cases e : i = n
    · rw [e]; exact h.2
    · exact h2 i (by omega)
/-- What is known of the smallest box of a start. -/
structure KeptB (L : List Lp) (xs : List Int) (C : List Rg) (ins : Bool) (D : List Rg) : Prop where
  box : BxL L D
  lv : ∀ i, i < L.length → lvA L D i = false
  st : ∀ i, i < L.length → (D.getD i rg0).1 ≤ nth xs i ∧ nth xs i ≤ (D.getD i rg0).2
  sub : ins = true → C.length = L.length ∧ ∀ i, i < L.length → (C.getD i rg0).1 ≤ (D.getD i rg0).1 ∧ (D.getD i rg0).2 ≤ (C.getD i rg0).2
theorem sub_start {xs : List Int} {C : List Rg} {n : Nat} (hl : xs.length = n) : (∀ i, i < n → (C.getD i rg0).1 ≤ nth xs i ∧ nth xs i ≤ (C.getD i rg0).2) ↔ SubB n (stB xs) C := by
  have e : ∀ i, i < n → bLo (stB xs) i = nth xs i ∧ bHi (stB xs) i = nth xs i := fun i hi => by
    have h := stB_get (xs := xs) (i := i) (by omega)
    exact ⟨by show ((stB xs).getD i rg0).1 = _; rw [h], by show ((stB xs).getD i rg0).2 = _; rw [h]⟩
  constructor
  · intro h i hi
    rw [(e i hi).1, (e i hi).2]
    exact h i hi
  · intro h i hi
    have := h i hi
    rw [(e i hi).1, (e i hi).2] at this
    exact this
theorem kept_of {L : List Lp} {xs : List Int} {C : List Rg} (hL : ∀ x ∈ L, LpOk x) (hl : xs.length = L.length) (hs : stL L xs L.length = true) (cl : Nat) (hcl : cl = L.length) :
    (∃ D, bxR L xs = (rgV D, 0) ∧ KeptB L xs C (aB xs C (decide ((bxE L C).2 = 0)) cl) D) ∨ (bxR L xs = (nilV, 12) ∧ aB xs C (decide ((bxE L C).2 = 0)) cl = false) := by
  subst hcl
  have h0 := stB_ok hl hs
  have hR : bxR L xs = bxM (boxF L (rmA L (stB xs) L.length + 1) (stB xs)) := by unfold bxR; rw [hs]; rfl
  cases hb : boxF L (rmA L (stB xs) L.length + 1) (stB xs) with
  | some D =>
    obtain ⟨r1, r2, r3, r4⟩ := boxF_some hL _ _ _ hb h0.1 h0.2
    refine .inl ⟨D, by rw [hR, hb]; rfl, ⟨⟨r1, fun i hi => ⟨(r2 i hi).1, (r2 i hi).2.1⟩⟩, fun i hi => (r2 i hi).2.2, (sub_start hl).2 r3, fun hins => ?_⟩⟩
    obtain ⟨k1, k2⟩ := aB_true hins
    obtain ⟨k3, k4⟩ := bxE_kept (of_decide_eq_true k1)
    exact ⟨k3.1, r4 C k4 ((sub_start hl).1 k2)⟩
  | none =>
    refine .inr ⟨by rw [hR, hb]; rfl, ?_⟩
    rw [Bool.eq_false_iff]
    intro hins
    obtain ⟨k1, k2⟩ := aB_true hins
    obtain ⟨k3, k4⟩ := bxE_kept (of_decide_eq_true k1)
    exact boxF_none hL _ _ (Nat.lt_succ_self _) hb C (fun i hi => ⟨k4 i hi, (k3.2 i hi).2, (k3.2 i hi).1⟩) ((sub_start hl).1 k2) (fun i hi => (h0.2 i hi).1)

end Go.Proofs.Ytniilkoggpghdaa
