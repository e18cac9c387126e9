/- FlatKept: small lemmas for its walk. -/
import Derived.Test.YtagpmpbmfjaiiaaWa
import Derived.Test.YtagpmpbmfjaiiaaM9
set_option linter.unusedVariables false
set_option linter.unusedSimpArgs false
namespace Go.Proofs.Ytagpmpbmfjaiiaa
open Go.RowKit
set_option maxRecDepth 20000

abbrev posV (p : List Nat) : DV := .slice p.length (p.map fun n : Nat => I n)
/-- How many items; the positions; where the links' slices lie. -/
abbrev Lnks : Type := Nat × List Nat × (Nat → Nat × Nat)
theorem posV_eq (p : List Nat) : isl (p.map fun n : Nat => (n : Int)) = posV p := by
  show DV.slice (p.map _).length ((p.map _).map I) = _
  rw [List.length_map, List.map_map]; rfl
theorem sub_snoc (f : Nat → Int) (R : List Nat) (j : Nat) : ivs (R.map f) ++ [I (f j)] = ivs ((R ++ [j]).map f) := by simp [ivs]
theorem isl_takeK (xs : List Int) {n : Nat} (h : xs.length = n) : DV.slice n ((ivs xs).take (n * 1)) = isl xs := by
  subst h
  rw [List.take_of_length_le (by simp [ivs])]
theorem kept_first {T : List Int} {A : List Act3} {m : Int} (h : RulOk T A) (hm0 : 0 ≤ m) (hm : inR m 0 100000 = true) {p : List Nat} (hc : Contra T A m (allS A) p) (s : Nat) (hs : s ≤ p.length) (hne : remTo p s p.length ≠ []) :
    (s = 0 → AC Try.prog 10 [rulV (subT T (remTo p s p.length)) (subA A (remTo p s p.length)), I m] (.tuple [nilV, I 12])) ∧ (1 ≤ s → ∃ l, AC Try.prog 10 [rulV (subT T (remTo p s p.length)) (subA A (remTo p s p.length)), I m] (.tuple [isl l, I 0])) := by
  have hmem := remTo_mem p s p.length (Nat.le_refl _)
  have hlen := remTo_len p s p.length
  have hpl := hc.len
  have ht9 := h.t9
  have hok := h.sub (p := remTo p s p.length) (List.length_pos_iff.2 hne) (by omega) fun j hj => hc.lt j (hmem j hj)
  have hf := first_sub hm0 hc hs hne
  have hfw := fun r h1 h2 => firstWithin_A _ _ _ m hok (allS_ok hok) hok.no_err hm r h1 h2
  cases hx : (allS (subA A (remTo p s p.length))).find? (keepB (subT T (remTo p s p.length)) (subA A (remTo p s p.length)) m) with
  | none =>
    rw [hx] at hf
    have hs0 : s = 0 := by
      have : decide (1 ≤ s) = false := hf.symm
      have := of_decide_eq_false this
      omega
    have h4 := hfw (.tuple [nilV, I 12]) (fun k hk h1 h2 => by
      have h3 := find_at hk h1 h2
      rw [hx] at h3; cases h3) (fun _ => rfl)
    exact ⟨fun _ => h4, fun h => by omega⟩
  | some l =>
    rw [hx] at hf
    have hs0 : 1 ≤ s := of_decide_eq_true hf.symm
    have h4 := hfw (.tuple [isl l, I 0]) (fun k hk h1 h2 => by
      have h3 := find_at hk h1 h2
      rw [hx] at h3
      injection h3 with h3
      rw [h3]) (fun h1 => by
      have h3 := find_none h1
      rw [hx] at h3; cases h3)
    exact ⟨fun h => by omega, fun _ => ⟨l, h4⟩⟩

end Go.Proofs.Ytagpmpbmfjaiiaa
