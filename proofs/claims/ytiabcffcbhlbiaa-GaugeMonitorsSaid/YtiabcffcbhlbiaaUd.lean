/- The smallest box that is kept. Nothing of the program. -/
import Derived.Test.YtiabcffcbhlbiaaUc
set_option linter.unusedVariables false
set_option linter.unusedSimpArgs false
namespace Go.Proofs.Ytiabcffcbhlbiaa
open Go.RowKit
set_option maxRecDepth 20000

/-- A box within another one. -/
def SubB (n : Nat) (B C : List (Int × Int)) : Prop := ∀ i, i < n → bLo C i ≤ bLo B i ∧ bHi B i ≤ bHi C i
theorem lvA_false {L : List Lp} {B : List (Int × Int)} {i : Nat} : lvA L B i = false ↔ bLo B i ≤ (imgA L B i).1 ∧ (imgA L B i).2 ≤ bHi B i := by
  unfold lvA
  rw [Bool.or_eq_false_iff, decide_eq_false_iff_not, decide_eq_false_iff_not]
  omega
theorem inL_iff {L : List Lp} {B : List (Int × Int)} {i : Nat} : inL L B i = true ↔ ((lpA L i).llo ≤ bLo B i ∧ bLo B i ≤ (lpA L i).lhi) ∧ (lpA L i).llo ≤ bHi B i ∧ bHi B i ≤ (lpA L i).lhi := by
  unfold inL inR
  simp only [Bool.and_eq_true, decide_eq_true_eq]
theorem imgA_sub {L : List Lp} (hL : ∀ x ∈ L, LpOk x) {B C : List (Int × Int)} (h : SubB L.length B C) {i : Nat} (hi : i < L.length) : (imgA L C i).1 ≤ (imgA L B i).1 ∧ (imgA L B i).2 ≤ (imgA L C i).2 :=
  ⟨aft_mono hL hi (fun j hj => (h j hj).1) (Int.le_refl _), aft_mono hL hi (fun j hj => (h j hj).2) (Int.le_refl _)⟩
theorem hul_get (L : List Lp) (B : List (Int × Int)) {i : Nat} (hi : i < L.length) : bLo (lsR (hulA L B) L.length) i = min (bLo B i) (imgA L B i).1 ∧ bHi (lsR (hulA L B) L.length) i = max (bHi B i) (imgA L B i).2 := by
  have e : (lsR (hulA L B) L.length).getD i rg0 = hulA L B i := lsR_get _ hi
  constructor
  · show ((lsR (hulA L B) L.length).getD i rg0).1 = _
    rw [e]; rfl
  · show ((lsR (hulA L B) L.length).getD i rg0).2 = _
    rw [e]; rfl
theorem hul_sub {L : List Lp} (hL : ∀ x ∈ L, LpOk x) {B C : List (Int × Int)} (hC : ∀ i, i < L.length → lvA L C i = false) (h : SubB L.length B C) : SubB L.length (lsR (hulA L B) L.length) C := fun i hi => by
  obtain ⟨h1, h2⟩ := hul_get L B hi
  rw [h1, h2]
  have h3 := imgA_sub hL h hi
  have h4 := lvA_false.1 (hC i hi)
  have h5 := h i hi
  omega
theorem not_neg {p : Nat → Bool} {n : Nat} (h : ¬ fstI p n < 0) : ∃ k : Nat, k < n ∧ fstI p n = k ∧ p k = true ∧ ∀ i, i < k → p i = false := by
  rcases fstI_cases p n with ⟨h1, _⟩ | h1
  · omega
  · exact h1
theorem is_neg {p : Nat → Bool} {n : Nat} (h : fstI p n < 0) : ∀ i, i < n → p i = false := by
  rcases fstI_cases p n with ⟨_, h2⟩ | ⟨k, _, h2, _⟩
  · exact h2
  · omega
theorem boxF_some {L : List Lp} (hL : ∀ x ∈ L, LpOk x) : ∀ (k : Nat) (B R : List (Int × Int)), boxF L k B = some R → B.length = L.length → (∀ i, i < L.length → bLo B i ≤ bHi B i ∧ inL L B i = true) →
    R.length = L.length ∧ (∀ i, i < L.length → bLo R i ≤ bHi R i ∧ inL L R i = true ∧ lvA L R i = false) ∧ SubB L.length B R ∧ ∀ C, (∀ i, i < L.length → lvA L C i = false) → SubB L.length B C → SubB L.length R C
  | 0, _, _, h, _, _ => by cases h
  | k + 1, B, R, h, hl, hB => by
    unfold boxF at h
    by_cases h1 : fstI (lvA L B) L.length < 0
    · rw [decide_eq_true h1] at h
      injection h with h
      subst h
      exact ⟨hl, fun i hi => ⟨(hB i hi).1, (hB i hi).2, is_neg h1 i hi⟩, fun i hi => ⟨Int.le_refl _, Int.le_refl _⟩, fun C _ hs => hs⟩
    · rw [decide_eq_false h1] at h
      by_cases h2 : fstI (fun i => !inL L (lsR (hulA L B) L.length) i) L.length < 0
      · rw [decide_eq_true h2] at h
        have h3 := is_neg h2
        obtain ⟨r1, r2, r3, r4⟩ := boxF_some hL k _ R h (lsR_length _ _) fun i hi => ⟨by
          obtain ⟨e1, e2⟩ := hul_get L B hi
          rw [e1, e2]
          have := (hB i hi).1
          omega, by simpa using h3 i hi⟩
        refine ⟨r1, r2, fun i hi => ?_, fun C hC hs => r4 C hC (hul_sub hL hC hs)⟩
        have h5 := r3 i hi
        obtain ⟨e1, e2⟩ := hul_get L B hi
        rw [e1, e2] at h5
        omega
      · rw [decide_eq_false h2] at h
        cases h
theorem boxF_none {L : List Lp} (hL : ∀ x ∈ L, LpOk x) : ∀ (k : Nat) (B : List (Int × Int)), rmA L B L.length < k → boxF L k B = none → ∀ C, (∀ i, i < L.length → lvA L C i = false ∧ inL L C i = true ∧ bLo C i ≤ bHi C i) → SubB L.length B C → (∀ i, i < L.length → bLo B i ≤ bHi B i) → False
  | 0, _, h, _, _, _, _, _ => by omega
  | k + 1, B, hk, h, C, hC, hs, hB => by
    unfold boxF at h
    by_cases h1 : fstI (lvA L B) L.length < 0
    · rw [decide_eq_true h1] at h
      cases h
    · rw [decide_eq_false h1] at h
      have hs2 := hul_sub hL (fun i hi => (hC i hi).1) hs
      have hB2 : ∀ i, i < L.length → bLo (lsR (hulA L B) L.length) i ≤ bHi (lsR (hulA L B) L.length) i := fun i hi => by
        obtain ⟨e1, e2⟩ := hul_get L B hi
        rw [e1, e2]
        have := hB i hi
        omega
      have h2 : ∀ i, i < L.length → inL L (lsR (hulA L B) L.length) i = true := fun i hi => by
        have h3 := inL_iff.1 (hC i hi).2.1
        have h4 := hs2 i hi
        have h5 := hB2 i hi
        exact inL_iff.2 (by omega)
      obtain ⟨j, j1, j2, j3, _⟩ := not_neg h1
      have hlt := (rmA_lt h2 j3 L.length (Nat.le_refl _)).2 j1
      rw [fstI_neg (p := fun i => !inL L (lsR (hulA L B) L.length) i) (fun i hi => by rw [h2 i hi]; rfl)] at h
      exact boxF_none hL k _ (by omega) h C hC hs2 hB2
/-- Heights in a box that is kept stay in it. -/
theorem aft_in {L : List Lp} (hL : ∀ x ∈ L, LpOk x) {B : List (Int × Int)} {h d : Nat → Int} (hh : ∀ i, i < L.length → bLo B i ≤ h i ∧ h i ≤ bHi B i) {i : Nat} (hi : i < L.length) (hlv : lvA L B i = false) (hd : dLo L i ≤ d i ∧ d i ≤ dHi L i) : bLo B i ≤ aft L h d i ∧ aft L h d i ≤ bHi B i := by
  have h1 := aft_mono hL hi (h := bLo B) (k := h) (d := dLo L) (e := d) (fun j hj => (hh j hj).1) hd.1
  have h2 := aft_mono hL hi (h := h) (k := bHi B) (d := d) (e := dHi L) (fun j hj => (hh j hj).2) hd.2
  have h3 := lvA_false.1 hlv
  unfold imgA at h3
  simp only at h3
  omega
/-- The same loopers, but for their limits. -/
structure SameL (L M : List Lp) : Prop where
  len : M.length = L.length
  eq : ∀ i, i < L.length → (lpA M i).tgt = (lpA L i).tgt ∧ (lpA M i).num = (lpA L i).num ∧ (lpA M i).den = (lpA L i).den ∧ (lpA M i).dlo = (lpA L i).dlo ∧ (lpA M i).dhi = (lpA L i).dhi
  wide : ∀ i, i < L.length → (lpA M i).llo ≤ (lpA L i).llo ∧ (lpA L i).lhi ≤ (lpA M i).lhi
theorem SameL.crr {L M : List Lp} (h : SameL L M) (f : Nat → Int) (i : Nat) (hi : i ≤ L.length) : crr M f i = crr L f i := by
  unfold Go.Proofs.Ytiabcffcbhlbiaa.crr
  rw [h.len]
  by_cases e : i = L.length
  · simp [e]
  · obtain ⟨h1, h2, h3, _⟩ := h.eq i (by omega)
    unfold cor1
    rw [h1, h2, h3]
theorem SameL.img {L M : List Lp} (h : SameL L M) (B : List (Int × Int)) {i : Nat} (hi : i < L.length) : imgA M B i = imgA L B i := by
  obtain ⟨_, _, _, h4, h5⟩ := h.eq i hi
  unfold imgA aft dLo dHi
  rw [h.crr _ i (by omega), h.crr _ i (by omega), h.crr _ (i + 1) (by omega), h.crr _ (i + 1) (by omega), h4, h5]
theorem fstI_congr {p q : Nat → Bool} : ∀ n : Nat, (∀ i, i < n → p i = q i) → fstI p n = fstI q n
  | 0, _ => rfl
  | n + 1, h => by
    unfold fstI
    rw [fstI_congr n fun i hi => h i (by omega), h n (by omega)]
theorem SameL.hul {L M : List Lp} (h : SameL L M) (B : List (Int × Int)) : lsR (hulA M B) M.length = lsR (hulA L B) L.length := by
  unfold lsR
  rw [h.len]
  refine List.map_congr_left fun i hi => ?_
  unfold hulA
  rw [h.img B (List.mem_range.1 hi)]
theorem SameL.box {L M : List Lp} (h : SameL L M) : ∀ (k : Nat) (B R : List (Int × Int)), boxF L k B = some R → boxF M k B = some R
  | 0, _, _, h => by cases h
  | k + 1, B, R, hR => by
    unfold boxF at hR ⊢
    rw [h.hul B]
    have e1 : fstI (lvA M B) M.length = fstI (lvA L B) L.length := by
      rw [h.len]
      refine fstI_congr _ fun i hi => ?_
      unfold lvA
      rw [h.img B hi]
    rw [e1]
    by_cases h1 : fstI (lvA L B) L.length < 0
    · rw [decide_eq_true h1] at hR ⊢
      exact hR
    · rw [decide_eq_false h1] at hR ⊢
      by_cases h2 : fstI (fun i => !inL L (lsR (hulA L B) L.length) i) L.length < 0
      · have h3 := is_neg h2
        have h4 : fstI (fun i => !inL M (lsR (hulA L B) L.length) i) M.length = -1 := fstI_neg fun i hi => by
          rw [h.len] at hi
          have h5 : inL L (lsR (hulA L B) L.length) i = true := by simpa using h3 i hi
          have h6 := inL_iff.1 h5
          have h7 := h.wide i hi
          have : inL M (lsR (hulA L B) L.length) i = true := inL_iff.2 (by omega)
          rw [this]; rfl
        rw [decide_eq_true h2] at hR
        rw [h4]
        exact h.box k _ R hR
      · rw [decide_eq_false h2] at hR
        cases hR

end Go.Proofs.Ytiabcffcbhlbiaa
