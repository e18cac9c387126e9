/- Tolerances: the reference of contradictions: walks. -/
import Derived.Test.YtagpmpbmfjaiiaaTv
set_option linter.unusedVariables false
set_option linter.unusedSimpArgs false
namespace Go.Proofs.Ytagpmpbmfjaiiaa
open Go.RowKit
set_option maxRecDepth 20000
set_option maxHeartbeats 8000000

theorem zeros_bls (n : Nat) : (zeros [.bool false] (n * 1)).map DV.val = bls (fun _ => false) n := by
  rw [← bls0]
  refine ((List.eq_replicate_iff.2 ⟨by simp [zeros], fun b hb => ?_⟩ : _ = List.replicate n (B false))).trans (by simp)
  obtain ⟨x, hx, rfl⟩ := List.mem_map.1 hb
  obtain ⟨i, _, rfl⟩ := List.mem_map.1 hx
  show DV.val ([Value.bool false][i % 1]?.getD undef) = _
  rw [Nat.mod_one]; rfl
/-- Whether one of the first sets of a table holds a set. -/
def anyTo (f : Nat → Bool) (s : Nat) : Nat → Bool
  | 0 => false
  | k + 1 => anyTo f s k || (f k && decide (((k &&& s : Nat) : Int) = (s : Int)))
theorem anyTo_iff (f : Nat → Bool) (s : Nat) : ∀ k, anyTo f s k = true ↔ ∃ x, x < k ∧ f x = true ∧ Subs s x
  | 0 => by simp [anyTo]
  | k + 1 => by
    show (anyTo f s k || (f k && decide (((k &&& s : Nat) : Int) = (s : Int)))) = true ↔ _
    rw [Bool.or_eq_true, Bool.and_eq_true, decide_eq_true_eq, anyTo_iff f s k]
    constructor
    · rintro (⟨x, h1, h2⟩ | ⟨h1, h2⟩)
      · exact ⟨x, by omega, h2⟩
      · exact ⟨k, by omega, h1, subs_and.1 (by omega)⟩
    · rintro ⟨x, h1, h2, h3⟩
      by_cases e : x = k
      · subst e; exact .inr ⟨h2, congrArg Int.ofNat (subs_and.2 h3)⟩
      · exact .inl ⟨x, by omega, h2, h3⟩
theorem keptTo_add {T : List Int} {A : List Act3} {xs : List Int} {m : Int} (k : Nat) : keptTo T A xs m k ||| 2 ^ k = keptTo T A xs m k + 2 ^ k := by
  have h := Nat.two_pow_add_eq_or_of_lt (keptTo_lt (T := T) (A := A) (xs := xs) (m := m) k) 1
  rw [Nat.mul_one] at h
  rw [Nat.or_comm, ← h, Nat.add_comm]
theorem pos_bit (s k : Nat) : (((s / 2 ^ k) &&& 1 : Nat) : Int) = 1 ↔ s &&& 2 ^ k ≠ 0 := by
  rw [Nat.and_one_is_mod, ← Nat.toNat_testBit]
  cases h : s.testBit k
  · have e : s &&& 2 ^ k = 0 := Nat.eq_of_testBit_eq fun j => by
      rw [Nat.testBit_and, Nat.testBit_two_pow, Nat.zero_testBit]
      by_cases hj : k = j
      · subst hj; rw [h]; rfl
      · rw [decide_eq_false hj, Bool.and_false]
    rw [e]; simp
  · have e : s &&& 2 ^ k ≠ 0 := fun e => by
      have h2 := Nat.testBit_and s (2 ^ k) k
      rw [e, h, Nat.testBit_two_pow, Nat.zero_testBit] at h2
      simp at h2
    simp [e]
theorem posTo_more {s n : Nat} (h : s < 2 ^ n) : ∀ d, posTo s (n + d) = posTo s n
  | 0 => rfl
  | d + 1 => by
    have h1 : s / 2 ^ (n + d) = 0 := Nat.div_eq_of_lt (Nat.lt_of_lt_of_le h (Nat.pow_le_pow_right (by decide) (by omega)))
    show (bif decide ((((s / 2 ^ (n + d)) &&& 1 : Nat) : Int) = 1) then posTo s (n + d) ++ [((n + d : Nat) : Int)] else posTo s (n + d)) = _
    rw [h1]
    exact posTo_more h d
/-- The sets that the reference finds. -/
def refP (T : List Int) (A : List Act3) (m : Int) (L : List (List Int)) : Option (List Int) := pickTo (fun s => anyTo (tog T A m L L.length) s (2 ^ T.length)) (2 ^ T.length - 1)
theorem pickTo_congr {f g : Nat → Bool} : ∀ k, (∀ s, 0 < s → s ≤ k → f s = g s) → pickTo f k = pickTo g k
  | 0, _ => rfl
  | k + 1, h => by
    show pickS f (pickTo f k) (k + 1) = pickS g (pickTo g k) (k + 1)
    rw [pickTo_congr k fun s h1 h2 => h s h1 (by omega)]
    unfold pickS
    rw [h (k + 1) (by omega) (Nat.le_refl _)]
theorem tog_lt {T : List Int} {A : List Act3} {m : Int} {L : List (List Int)} : ∀ k, k ≤ L.length → ∀ x, tog T A m L k x = true → x < 2 ^ T.length
  | 0, _, x, h => by
    have h : false = true := h
    exact absurd h (by decide)
  | k + 1, hk, x, h => by
    rw [tog_succ (N := L.getD k []) (by omega) rfl] at h
    by_cases e : x = keptTo T A (L.getD k []) m T.length
    · rw [e]; exact keptTo_lt _
    · rw [updB_ne e] at h
      exact tog_lt k (by omega) x h
theorem refP_eq {T : List Int} {A : List Act3} {m : Int} {L : List (List Int)} (ht : T.length ≤ 9) : refP T A m L = contP T A m L := by
  refine pickTo_congr _ fun s h0 hs => ?_
  have hp : 0 < 2 ^ T.length := Nat.pow_pos (by decide)
  rw [Bool.eq_iff_iff, anyTo_iff]
  show _ ↔ outerF (tog T A m L L.length) T.length (2 ^ T.length - 1) (2 ^ T.length - 1) s = true
  rw [closed_iff (by omega) (tog_lt L.length (Nat.le_refl _)) h0 (by omega)]
  constructor
  · rintro ⟨x, _, h1, h2⟩; exact ⟨x, h1, h2⟩
  · rintro ⟨x, h1, h2⟩; exact ⟨x, tog_lt L.length (Nat.le_refl _) x h1, h1, h2⟩

end Go.Proofs.Ytagpmpbmfjaiiaa
