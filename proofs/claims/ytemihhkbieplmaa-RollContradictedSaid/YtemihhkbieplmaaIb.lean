/- Sets of marks that have no phase: two or three suffice. Nothing of the program. -/
import Derived.Test.YtemihhkbieplmaaIi
import Derived.Test.YtemihhkbieplmaaIg
set_option linter.unusedVariables false
set_option linter.unusedSimpArgs false
namespace Go.Proofs.Ytemihhkbieplmaa
open Go.RowKit
set_option maxRecDepth 20000

theorem pair_all {R : Int → Int → Prop} (hs : ∀ i j, R i j → R j i) (hr : ∀ i, R i i) : ∀ {l : List Int}, l.Pairwise R → ∀ i ∈ l, ∀ j ∈ l, R i j
  | [], _, _, h, _, _ => by cases h
  | x :: l, h, i, hi, j, hj => by
    cases h with
    | cons h1 h2 =>
      rcases List.mem_cons.1 hi with rfl | hi' <;> rcases List.mem_cons.1 hj with rfl | hj'
      · exact hr _
      · exact h1 j hj'
      · exact hs _ _ (h1 i hi')
      · exact pair_all hs hr h2 i hi' j hj'
section
variable {xs : List Int} {t r : Int}
theorem phV_self (ht : 0 ≤ t) (a : Int) : phV t r a a = 0 := by
  unfold phV; rw [Int.sub_self, Int.zero_emod, if_neg (by omega)]
theorem eLo' {is : List Int} {f : Int} : (phEnd xs t r is).1 ≤ f ↔ -t ≤ f ∧ ∀ i ∈ is, phV t r (phA xs is) (nth xs i.toNat) - t ≤ f := by
  unfold phEnd phAcc
  rw [List.take_of_length_le (Nat.le_refl _), lo_iff]
theorem eHi' {is : List Int} {f : Int} : f ≤ (phEnd xs t r is).2 ↔ f ≤ t ∧ ∀ i ∈ is, f ≤ phV t r (phA xs is) (nth xs i.toNat) + t := by
  unfold phEnd phAcc
  rw [List.take_of_length_le (Nat.le_refl _), hi_iff]
/-- A set has a phase exactly if any two of its marks, seen from the first one, do not differ by more than twice the tolerance. -/
theorem phOk_iff {k : Int} {l : List Int} (ht : 0 ≤ t) : phOk xs t r (k :: l) = true ↔ ∀ i ∈ k :: l, ∀ j ∈ k :: l, phV t r (nth xs k.toNat) (nth xs i.toNat) ≤ phV t r (nth xs k.toNat) (nth xs j.toNat) + 2 * t := by
  have ha : phA xs (k :: l) = nth xs k.toNat := rfl
  unfold phOk
  rw [decide_eq_true_iff, eLo', eHi', ha]
  have h0 := phV_self (r := r) ht (nth xs k.toNat)
  constructor
  · rintro ⟨⟨h1, h2⟩, h3⟩ i hi j hj
    have := (eHi'.1 (h3 i hi)).2 j hj
    rw [ha] at this
    omega
  · intro h
    refine ⟨⟨by omega, fun i hi => ?_⟩, fun i hi => eHi'.2 ⟨?_, fun j hj => ?_⟩⟩
    · have := h k (by simp) i hi; omega
    · have := h i hi k (by simp); omega
    · rw [ha]; have := h i hi j hj; omega
/-- Three marks suffice. -/
theorem phOk_three {k : Int} {l : List Int} (ht : 0 ≤ t) (h : ∀ i ∈ l, phOk xs t r [k, i] = true) (h3 : l.Pairwise fun i j => phOk xs t r [k, i, j] = true) : phOk xs t r (k :: l) = true := by
  rw [phOk_iff ht]
  have h0 := phV_self (r := r) ht (nth xs k.toNat)
  have hk : ∀ i ∈ l, -(2 * t) ≤ phV t r (nth xs k.toNat) (nth xs i.toNat) ∧ phV t r (nth xs k.toNat) (nth xs i.toNat) ≤ 2 * t := fun i hi => by
    have := (phOk_iff ht).1 (h i hi)
    have h1 := this i (by simp) k (by simp)
    have h2 := this k (by simp) i (by simp)
    omega
  have hp : ∀ i ∈ l, ∀ j ∈ l, phV t r (nth xs k.toNat) (nth xs i.toNat) ≤ phV t r (nth xs k.toNat) (nth xs j.toNat) + 2 * t := by
    have h4 : l.Pairwise fun i j => phV t r (nth xs k.toNat) (nth xs i.toNat) ≤ phV t r (nth xs k.toNat) (nth xs j.toNat) + 2 * t ∧ phV t r (nth xs k.toNat) (nth xs j.toNat) ≤ phV t r (nth xs k.toNat) (nth xs i.toNat) + 2 * t := h3.imp fun {i j} hij => by
      have := (phOk_iff ht).1 hij
      exact ⟨this i (by simp) j (by simp), this j (by simp) i (by simp)⟩
    intro i hi j hj
    exact (pair_all (R := fun i j => phV t r (nth xs k.toNat) (nth xs i.toNat) ≤ phV t r (nth xs k.toNat) (nth xs j.toNat) + 2 * t ∧ phV t r (nth xs k.toNat) (nth xs j.toNat) ≤ phV t r (nth xs k.toNat) (nth xs i.toNat) + 2 * t) (fun _ _ h => ⟨h.2, h.1⟩) (fun _ => ⟨by omega, by omega⟩) h4 i hi j hj).1
  intro i hi j hj
  rcases List.mem_cons.1 hi with rfl | hi' <;> rcases List.mem_cons.1 hj with rfl | hj'
  · omega
  · have := hk j hj'; omega
  · have := hk i hi'; omega
  · exact hp i hi' j hj'
theorem phOk_sub {k : Int} {l m : List Int} (ht : 0 ≤ t) (h : phOk xs t r (k :: l) = true) (hs : ∀ i ∈ m, i ∈ k :: l) : phOk xs t r (k :: m) = true := by
  rw [phOk_iff ht] at *
  have hm : ∀ i ∈ k :: m, i ∈ k :: l := fun i hi => by
    rcases List.mem_cons.1 hi with rfl | hi
    · simp
    · exact hs i hi
  exact fun i hi j hj => h i (hm i hi) j (hm j hj)
end
theorem rise_range {cnt : Nat} : ∀ (m n : Nat), n + m = cnt → Rise cnt n ((List.range' n m).map fun (i : Nat) => (i : Int))
  | 0, n, _ => .nil n
  | m + 1, n, h => by
    rw [List.range'_succ, List.map_cons]
    exact .cons n (Nat.le_refl _) (by omega) (rise_range m (n + 1) (by omega))
theorem rise_pair {cnt : Nat} {p : Int → Int → Prop} : ∀ {n : Nat} {l : List Int}, Rise cnt n l → (∀ i j : Nat, n ≤ i → i < j → j < cnt → p i j) → l.Pairwise p
  | _, _, .nil _, _ => .nil
  | n, _, .cons (l := l) k h1 h2 h3, h => by
    refine .cons (fun x hx => ?_) (rise_pair h3 fun i j h4 h5 h6 => h i j (by omega) h5 h6)
    have key : ∀ {n : Nat} {l : List Int}, Rise cnt n l → ∀ x ∈ l, ∃ j : Nat, x = (j : Int) ∧ n ≤ j ∧ j < cnt := by
      intro n l hr
      induction hr with
      | nil => intro x hx; cases hx
      | cons k h1 h2 _ ih =>
        intro x hx
        rcases List.mem_cons.1 hx with rfl | hx
        · exact ⟨k, rfl, h1, h2⟩
        · obtain ⟨j, e, h3, h4⟩ := ih x hx
          exact ⟨j, e, by omega, h4⟩
    obtain ⟨j, rfl, h4, h5⟩ := key h3 x hx
    exact h k j h1 (by omega) h5
theorem rise_all {cnt : Nat} {n : Nat} {l : List Int} (hr : Rise cnt n l) : ∀ x ∈ l, ∃ j : Nat, x = (j : Int) ∧ n ≤ j ∧ j < cnt := by
  induction hr with
  | nil => intro x hx; cases hx
  | cons k h1 h2 _ ih =>
    intro x hx
    rcases List.mem_cons.1 hx with rfl | hx
    · exact ⟨k, rfl, h1, h2⟩
    · obtain ⟨j, e, h3, h4⟩ := ih x hx
      exact ⟨j, e, by omega, h4⟩
/-- If all pairs, and all sets of three, have phases, all marks have one. -/
theorem helly {xs : List Int} {t r : Int} (ht : 0 ≤ t) (hn : 0 < xs.length) (h2 : ∀ l ∈ grw xs.length 2 [] 0, phOk xs t r l = true) (h3 : ∀ l ∈ grw xs.length 3 [] 0, phOk xs t r l = true) : phOk xs t r (allM xs) = true := by
  have e : allM xs = (0 : Int) :: (List.range' 1 (xs.length - 1)).map fun (i : Nat) => (i : Int) := by
    unfold allM lst
    rw [List.range_eq_range', show xs.length = (xs.length - 1) + 1 by omega, List.range'_succ]
    rfl
  have hr := rise_range (cnt := xs.length) (xs.length - 1) 1 (by omega)
  rw [e]
  refine phOk_three ht (fun i hi => ?_) (rise_pair hr fun i j h4 h5 h6 => ?_)
  · obtain ⟨j, rfl, h4, h5⟩ := rise_all hr i hi
    exact h2 _ (grw_mem.2 ⟨[(0 : Nat), (j : Int)], rfl, rfl, .cons 0 (Nat.le_refl _) (by omega) (.cons j h4 h5 (.nil _))⟩)
  · exact h3 _ (grw_mem.2 ⟨[(0 : Nat), (i : Int), (j : Int)], rfl, rfl, .cons 0 (Nat.le_refl _) (by omega) (.cons i h4 (by omega) (.cons j h5 h6 (.nil _)))⟩)
/-- The first set of a size that has no phase. -/
def ctrN (xs : List Int) (t r : Int) (m : Nat) : Option (List Int) := (grw xs.length m [] 0).find? fun l => !phOk xs t r l
/-- The set that contradicts. -/
def ctrS (xs : List Int) (t r : Int) : Option (List Int) := (ctrN xs t r 2).or (ctrN xs t r 3)
theorem ctrS_none {xs : List Int} {t r : Int} (ht : 0 ≤ t) (hn : 0 < xs.length) (h : phOk xs t r (allM xs) = false) : ∃ l, ctrS xs t r = some l := by
  cases h2 : ctrN xs t r 2 with
  | some l => exact ⟨l, by unfold ctrS; rw [h2]; rfl⟩
  | none =>
    cases h3 : ctrN xs t r 3 with
    | some l => exact ⟨l, by unfold ctrS; rw [h2, h3]; rfl⟩
    | none =>
      exfalso
      unfold ctrN at h2 h3
      rw [List.find?_eq_none] at h2 h3
      have := helly (r := r) ht hn (fun l hl => by have := h2 l hl; simpa using this) (fun l hl => by have := h3 l hl; simpa using this)
      rw [h] at this; cases this

end Go.Proofs.Ytemihhkbieplmaa
