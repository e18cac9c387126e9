/- Sets of positions that some settings keep: the table is closed downwards. No walk. -/
import Derived.Test.YtagpmpbmfjaiiaaPn
set_option linter.unusedVariables false
set_option linter.unusedSimpArgs false
namespace Go.Proofs.Ytagpmpbmfjaiiaa
open Go.RowKit

/-- A set of positions lies in another one. -/
def Subs (t x : Nat) : Prop := ∀ j, t.testBit j = true → x.testBit j = true
theorem Subs.refl (t : Nat) : Subs t t := fun _ h => h
theorem Subs.trans {a b c : Nat} (h1 : Subs a b) (h2 : Subs b c) : Subs a c := fun j h => h2 j (h1 j h)
theorem subs_and {t x : Nat} : x &&& t = t ↔ Subs t x := by
  constructor
  · intro h j hj
    have := congrArg (Nat.testBit · j) h
    simp only [Nat.testBit_and] at this
    rw [hj] at this
    simpa using this
  · intro h
    refine Nat.eq_of_testBit_eq fun j => ?_
    rw [Nat.testBit_and]
    cases hj : t.testBit j
    · simp
    · rw [h j hj]; rfl
theorem bitOff_bit {a i : Nat} (ha : a < 2 ^ 62) (hi : i < 62) (j : Nat) : (bitOff a (2 ^ i)).testBit j = (a.testBit j && !decide (j = i)) := by
  unfold bitOff
  rw [BitVec.testBit_toNat, BitVec.getLsbD_and, BitVec.getLsbD_not, BitVec.getLsbD_ofNat, BitVec.getLsbD_ofNat, Nat.testBit_two_pow]
  by_cases hj : j < 64
  · rw [decide_eq_true hj]
    have e : decide (i = j) = decide (j = i) := decide_eq_decide.2 ⟨Eq.symm, Eq.symm⟩
    simp [e]
  · have : a.testBit j = false := Nat.testBit_lt_two_pow (Nat.lt_of_lt_of_le ha (Nat.pow_le_pow_right (by decide) (by omega)))
    simp [hj, this]
theorem bitOff_subs {a i : Nat} (ha : a < 2 ^ 62) (hi : i < 62) : Subs (bitOff a (2 ^ i)) a := fun j h => by
  rw [bitOff_bit ha hi] at h
  exact (Bool.and_eq_true_iff.1 h).1
theorem updB_at (f : Nat → Bool) (o : Nat) (v : Bool) : updB f o v o = v := by unfold updB; rw [Nat.beq_refl]; rfl
theorem updB_ne {f : Nat → Bool} {o i : Nat} (h : i ≠ o) (v : Bool) : updB f o v i = f i := by
  unfold updB
  rw [show Nat.beq i o = false from Bool.eq_false_iff.2 fun e => h (Nat.eq_of_beq_eq_true e)]; rfl
theorem inner_mono1 (g : Nat → Bool) (s i : Nat) {t : Nat} (h : innerF g s i t = true) : innerF g s (i + 1) t = true := by
  show updB (innerF g s i) (bitOff s (2 ^ i)) (innerF g s i (bitOff s (2 ^ i)) || innerF g s i s) t = true
  by_cases e : t = bitOff s (2 ^ i)
  · subst e; rw [updB_at, h]; rfl
  · rw [updB_ne e]; exact h
theorem inner_mono (g : Nat → Bool) (s : Nat) {t i : Nat} : ∀ d, innerF g s i t = true → innerF g s (i + d) t = true
  | 0, h => h
  | d + 1, h => inner_mono1 g s (i + d) (inner_mono g s d h)
theorem inner_base (g : Nat → Bool) (s n : Nat) {t : Nat} (h : g t = true) : innerF g s n t = true := by
  have := inner_mono g s (t := t) (i := 0) n h
  rwa [Nat.zero_add] at this
theorem inner_set (g : Nat → Bool) (s : Nat) {n i : Nat} (hi : i < n) (h : g s = true) : innerF g s n (bitOff s (2 ^ i)) = true := by
  have h1 : innerF g s (i + 1) (bitOff s (2 ^ i)) = true := by
    show updB (innerF g s i) (bitOff s (2 ^ i)) (innerF g s i (bitOff s (2 ^ i)) || innerF g s i s) _ = true
    rw [updB_at, inner_base g s i h, Bool.or_true]
  have := inner_mono g s (n - (i + 1)) h1
  rwa [show i + 1 + (n - (i + 1)) = n by omega] at this
theorem inner_sound (g : Nat → Bool) (s : Nat) {t : Nat} : ∀ n, innerF g s n t = true → g t = true ∨ (g s = true ∧ ∃ i, i < n ∧ t = bitOff s (2 ^ i))
  | 0, h => .inl h
  | n + 1, h => by
    have h : updB (innerF g s n) (bitOff s (2 ^ n)) (innerF g s n (bitOff s (2 ^ n)) || innerF g s n s) t = true := h
    by_cases e : t = bitOff s (2 ^ n)
    · subst e
      rw [updB_at, Bool.or_eq_true] at h
      rcases h with h | h
      · rcases inner_sound g s n h with h | ⟨h1, i, hi, h2⟩
        · exact .inl h
        · exact .inr ⟨h1, i, by omega, h2⟩
      · rcases inner_sound g s n h with h | ⟨h1, _⟩
        · exact .inr ⟨h, n, by omega, rfl⟩
        · exact .inr ⟨h1, n, by omega, rfl⟩
    · rw [updB_ne e] at h
      rcases inner_sound g s n h with h | ⟨h1, i, hi, h2⟩
      · exact .inl h
      · exact .inr ⟨h1, i, by omega, h2⟩
/-- Some set of the table holds a set. -/
def InC (f : Nat → Bool) (t : Nat) : Prop := ∃ x, f x = true ∧ Subs t x
theorem outer_sound {f : Nat → Bool} {n e : Nat} (hn : n ≤ 61) (he : e < 2 ^ 62) {t : Nat} : ∀ k, outerF f n e k t = true → InC f t
  | 0, h => ⟨t, h, Subs.refl t⟩
  | k + 1, h => by
    rcases inner_sound _ _ n h with h | ⟨h1, i, hi, h2⟩
    · exact outer_sound hn he k h
    · obtain ⟨x, hx, hs⟩ := outer_sound hn he k h1
      exact ⟨x, hx, (h2 ▸ bitOff_subs (by omega) (by omega)).trans hs⟩
theorem outer_mono {f : Nat → Bool} {n e t k : Nat} : ∀ d, outerF f n e k t = true → outerF f n e (k + d) t = true
  | 0, h => h
  | d + 1, h => inner_base _ _ n (outer_mono d h)
theorem bit_more {t x n : Nat} (h : Subs t x) (hne : t ≠ x) (hx : x < 2 ^ n) : ∃ i, i < n ∧ x.testBit i = true ∧ t.testBit i = false := by
  refine Decidable.byContradiction fun hn => hne (Nat.eq_of_testBit_eq fun j => ?_)
  cases hj : x.testBit j
  · cases ht : t.testBit j
    · rfl
    · rw [h j ht] at hj; exact hj
  · cases ht : t.testBit j
    · refine absurd ⟨j, ?_, hj, ht⟩ hn
      refine Decidable.byContradiction fun hjn => ?_
      have := Nat.testBit_lt_two_pow (x := x) (i := j) (Nat.lt_of_lt_of_le hx (Nat.pow_le_pow_right (by decide) (by omega)))
      rw [this] at hj; exact absurd hj (by decide)
    · rfl
theorem outer_full {f : Nat → Bool} {n : Nat} (hn : n ≤ 61) (hf : ∀ x, f x = true → x < 2 ^ n) : ∀ d t, 2 ^ n - 1 - t = d → 0 < t → t < 2 ^ n → InC f t → ∀ k, 2 ^ n - 1 - t ≤ k → outerF f n (2 ^ n - 1) k t = true := by
  intro d
  induction d using Nat.strongRecOn with
  | ind d ih =>
    intro t hd ht0 ht ⟨x, hx, hs⟩ k hk
    by_cases hxt : t = x
    · subst hxt
      have := outer_mono (f := f) (n := n) (e := 2 ^ n - 1) (t := t) (k := 0) k hx
      rwa [Nat.zero_add] at this
    · obtain ⟨i, hi, hxi, hti⟩ := bit_more hs hxt (hf x hx)
      -- the set with one position more
      have hbit : ∀ j, (t ||| 2 ^ i).testBit j = (t.testBit j || decide (j = i)) := fun j => by
        rw [Nat.testBit_or, Nat.testBit_two_pow]
        congr 1
        exact decide_eq_decide.2 ⟨Eq.symm, Eq.symm⟩
      have hss : Subs (t ||| 2 ^ i) x := fun j h => by
        rw [hbit, Bool.or_eq_true, decide_eq_true_eq] at h
        rcases h with h | h
        · exact hs j h
        · subst h; exact hxi
      have hgt : t < t ||| 2 ^ i := by
        have h1 : t ≤ t ||| 2 ^ i := Nat.left_le_or
        refine Nat.lt_of_le_of_ne h1 fun e => ?_
        have h2 := hbit i
        rw [← e, hti] at h2
        simp at h2
      have hslt : t ||| 2 ^ i < 2 ^ n := by
        refine Nat.lt_of_not_le fun hge => ?_
        obtain ⟨j, hj, hj2⟩ := Nat.exists_ge_and_testBit_of_ge_two_pow hge
        have h3 := hss j hj2
        have h4 := Nat.testBit_lt_two_pow (x := x) (i := j) (Nat.lt_of_lt_of_le (hf x hx) (Nat.pow_le_pow_right (by decide) hj))
        rw [h4] at h3; exact absurd h3 (by decide)
      have h1 := ih (2 ^ n - 1 - (t ||| 2 ^ i)) (by omega) (t ||| 2 ^ i) rfl (by omega) hslt ⟨x, hx, hss⟩ (2 ^ n - 1 - (t ||| 2 ^ i)) (Nat.le_refl _)
      have e2 : bitOff (t ||| 2 ^ i) (2 ^ i) = t := by
        have hp61 : 2 ^ n ≤ 2 ^ 61 := Nat.pow_le_pow_right (by decide) hn
        refine Nat.eq_of_testBit_eq fun j => ?_
        rw [bitOff_bit (by omega) (by omega), hbit]
        by_cases hj : j = i
        · subst hj; rw [hti]; simp
        · simp [hj]
      have h2 : outerF f n (2 ^ n - 1) (2 ^ n - 1 - (t ||| 2 ^ i) + 1) t = true := by
        show innerF (outerF f n (2 ^ n - 1) (2 ^ n - 1 - (t ||| 2 ^ i))) (2 ^ n - 1 - (2 ^ n - 1 - (t ||| 2 ^ i))) n t = true
        rw [show 2 ^ n - 1 - (2 ^ n - 1 - (t ||| 2 ^ i)) = t ||| 2 ^ i by omega]
        have := inner_set (outerF f n (2 ^ n - 1) (2 ^ n - 1 - (t ||| 2 ^ i))) (t ||| 2 ^ i) hi h1
        rwa [e2] at this
      have := outer_mono (k - (2 ^ n - 1 - (t ||| 2 ^ i) + 1)) h2
      rwa [show 2 ^ n - 1 - (t ||| 2 ^ i) + 1 + (k - (2 ^ n - 1 - (t ||| 2 ^ i) + 1)) = k by omega] at this
theorem closed_iff {f : Nat → Bool} {n : Nat} (hn : n ≤ 61) (hf : ∀ x, f x = true → x < 2 ^ n) {t : Nat} (h0 : 0 < t) (ht : t < 2 ^ n) : outerF f n (2 ^ n - 1) (2 ^ n - 1) t = true ↔ InC f t :=
  ⟨outer_sound hn (by have : 2 ^ n ≤ 2 ^ 61 := Nat.pow_le_pow_right (by decide) hn; omega) _, fun h => outer_full hn hf _ t rfl h0 ht h _ (Nat.sub_le _ _)⟩

end Go.Proofs.Ytagpmpbmfjaiiaa
