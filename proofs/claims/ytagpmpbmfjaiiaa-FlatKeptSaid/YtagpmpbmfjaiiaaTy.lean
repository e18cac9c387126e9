/- The law FlatTolerances: plain part, errors. -/
import Derived.Test.YtagpmpbmfjaiiaaTx
set_option linter.unusedVariables false
set_option linter.unusedSimpArgs false
namespace Go.Proofs.Ytagpmpbmfjaiiaa
open Go.RowKit
set_option maxRecDepth 20000
set_option maxHeartbeats 8000000

theorem keptTo_bit {T : List Int} {A : List Act3} {xs : List Int} {m : Int} : ∀ n i, (keptTo T A xs m n).testBit i = (decide (i < n) && decide (((devP T A xs i).natAbs : Int) ≤ m))
  | 0, i => by
    show Nat.testBit 0 i = _
    rw [Nat.zero_testBit]; simp
  | n + 1, i => by
    have ih := keptTo_bit (T := T) (A := A) (xs := xs) (m := m) n
    show (bif decide (((devP T A xs n).natAbs : Int) ≤ m) then keptTo T A xs m n ||| 2 ^ n else keptTo T A xs m n).testBit i = _
    by_cases hd : ((devP T A xs n).natAbs : Int) ≤ m
    · rw [decide_eq_true hd]
      show (keptTo T A xs m n ||| 2 ^ n).testBit i = _
      rw [Nat.testBit_or, ih, Nat.testBit_two_pow]
      by_cases hi : n = i
      · subst hi; rw [decide_eq_true hd]; simp
      · rw [decide_eq_false hi, Bool.or_false]
        congr 1
        exact decide_eq_decide.2 (by omega)
    · rw [decide_eq_false hd]
      show (keptTo T A xs m n).testBit i = _
      rw [ih]
      by_cases hi : n = i
      · subst hi; rw [decide_eq_false hd]; simp
      · congr 1
        exact decide_eq_decide.2 (by omega)
theorem tog_iff {T : List Int} {A : List Act3} {m : Int} {L : List (List Int)} : ∀ k, k ≤ L.length → ∀ x, tog T A m L k x = true ↔ ∃ i, i < k ∧ x = keptTo T A (L.getD i []) m T.length
  | 0, _, x => ⟨fun h => absurd (show false = true from h) (by decide), fun ⟨i, hi, _⟩ => by omega⟩
  | k + 1, hk, x => by
    rw [tog_succ (N := L.getD k []) (by omega) rfl]
    by_cases e : x = keptTo T A (L.getD k []) m T.length
    · rw [← e, updB_at]
      exact ⟨fun _ => ⟨k, by omega, e⟩, fun _ => rfl⟩
    · rw [updB_ne e, tog_iff k (by omega) x]
      constructor
      · rintro ⟨i, hi, h⟩; exact ⟨i, by omega, h⟩
      · rintro ⟨i, hi, h⟩
        by_cases hik : i = k
        · subst hik; exact absurd h e
        · exact ⟨i, by omega, h⟩
theorem pickTo_none {f : Nat → Bool} : ∀ k, (∀ s, 0 < s → s ≤ k → f s = true) → pickTo f k = none
  | 0, _ => rfl
  | k + 1, h => by
    show pickS f (pickTo f k) (k + 1) = none
    rw [pickTo_none k fun s h1 h2 => h s h1 (by omega)]
    unfold pickS
    rw [h (k + 1) (by omega) (Nat.le_refl _)]; rfl
theorem pickS_some (f : Nat → Bool) (y : Option (List Int)) (s : Nat) (h : y.isSome = true ∨ f s = false) : (pickS f y s).isSome = true := by
  unfold pickS
  cases hf : f s
  · cases y with
    | none => rfl
    | some b =>
      show (bif better (posTo s 9) b then some (posTo s 9) else some b).isSome = true
      cases better (posTo s 9) b <;> rfl
  · rcases h with h | h
    · exact h
    · rw [hf] at h; exact absurd h (by decide)
theorem pickTo_some {f : Nat → Bool} : ∀ k s, 0 < s → s ≤ k → f s = false → (pickTo f k).isSome = true
  | 0, s, h1, h2, _ => by omega
  | k + 1, s, h1, h2, h => by
    show (pickS f (pickTo f k) (k + 1)).isSome = true
    by_cases e : s = k + 1
    · subst e; exact pickS_some _ _ _ (.inr h)
    · exact pickS_some _ _ _ (.inl (pickTo_some k s h1 (by omega) h))
theorem contP_none {T : List Int} {A : List Act3} {m : Int} {L : List (List Int)} (ht : T.length ≤ 9) (hm : 0 ≤ m) {k : Nat} (hk : k < L.length) (h : keepB T A m (L.getD k []) = true) : contP T A m L = none := by
  refine pickTo_none _ fun s h0 hs => ?_
  have hp : 0 < 2 ^ T.length := Nat.pow_pos (by decide)
  refine (closed_iff (by omega) (tog_lt L.length (Nat.le_refl _)) h0 (by omega)).2 ⟨_, (tog_iff L.length (Nat.le_refl _) _).2 ⟨k, hk, rfl⟩, fun j hj => ?_⟩
  have hjn : j < T.length := Nat.lt_of_not_le fun hge => by
    have := Nat.testBit_lt_two_pow (x := s) (i := j) (Nat.lt_of_lt_of_le (show s < 2 ^ T.length by omega) (Nat.pow_le_pow_right (by decide) hge))
    rw [this] at hj; exact absurd hj (by decide)
  have h1 := (maxTo_le hm T.length).1 (of_decide_eq_true h) j hjn
  rw [keptTo_bit, decide_eq_true hjn, decide_eq_true h1]; rfl
theorem contP_some {T : List Int} {A : List Act3} {m : Int} {L : List (List Int)} (ht : T.length ≤ 9) (ht0 : 0 < T.length) (hm : 0 ≤ m) (h : ∀ k, k < L.length → keepB T A m (L.getD k []) = false) : (contP T A m L).isSome = true := by
  have hp : 2 ^ 1 ≤ 2 ^ T.length := Nat.pow_le_pow_right (by decide) ht0
  have hp : 2 ≤ 2 ^ T.length := hp
  refine pickTo_some _ (2 ^ T.length - 1) (by omega) (Nat.le_refl _) ?_
  refine Bool.eq_false_iff.2 fun hc => ?_
  obtain ⟨x, hx, hs⟩ := (closed_iff (by omega) (tog_lt L.length (Nat.le_refl _)) (by omega) (by omega)).1 hc
  obtain ⟨i, hi, rfl⟩ := (tog_iff L.length (Nat.le_refl _) _).1 hx
  have hk : keepB T A m (L.getD i []) = true := decide_eq_true ((maxTo_le hm T.length).2 fun j hj => by
    have h1 := hs j (by rw [Nat.testBit_two_pow_sub_one]; exact decide_eq_true hj)
    rw [keptTo_bit, Bool.and_eq_true, decide_eq_true_eq, decide_eq_true_eq] at h1
    exact h1.2)
  rw [h i hi] at hk
  exact absurd hk (by decide)
def tolE (T : List Int) (A : List Act3) (m : Int) : Int := fst0 [(rulE T A).2, unl (inR m 0 100000) 2]
theorem firstWithin_err (T : List Int) (A : List Act3) (m : Int) (hl : LenOk T A) (he : tolE T A m ≠ 0) : AC Try.prog 10 [rulV T A, I m] (.tuple [nilV, I (tolE T A m)]) := by
  have hop := openTolerance_A T A m hl
  have he' : fst0 [(rulE T A).2, unl (inR m 0 100000) 2] ≠ 0 := he
  refine ac_body Try.func10 rfl (by kernel_rfl) fun w0 ok => ?_; show AWp _ (ctx0 w0 ok _) _ (ARet _ _ _) (entry _)
  (repeat' (first | (with_reducible first | intro hg | refine mv (by constructor) ?_) | ((with_reducible first | refine zR ?_ ?_ | refine zW mixed ?_ ?_); exact kr) | ((with_reducible apply zK); exact rfl; exact tf) | ((with_reducible apply zCD); exact rfl) | ((with_reducible apply zCN); exact rfl) | ((with_reducible apply zC); exact rfl) | ((with_reducible refine zX ?_ ?_); exact rfl) | ((with_reducible refine zE (And.intro ?_ ?_)); exact kr) | (with_reducible refine zE ?_) | ((with_reducible apply zP); (first | exact dp | exact oc rfl (hop))) | ((with_reducible apply zN); exact dn) | ((with_reducible apply zA); exact da) | ((with_reducible apply zS); exact ds) | ((with_reducible apply zY); exact rfl; exact rfl; exact tf) | ((with_reducible apply zG); exact rfl; exact rfl; exact tf) | ((with_reducible apply zU); exact rfl; exact rfl) | ((with_reducible apply zD); exact rfl; exact rfl) | ((with_reducible apply zB); exact rfl; exact rfl)))
  ((with_reducible first | apply q_retR | apply q_retN); exact rl)
  rfl
theorem contra_err (T : List Int) (A : List Act3) (m : Int) (hl : LenOk T A) (he : tolE T A m ≠ 0) : AC Try.prog 11 [rulV T A, I m] (.tuple [nilV, I (tolE T A m)]) := by
  have hop := openTolerance_A T A m hl
  have he' : fst0 [(rulE T A).2, unl (inR m 0 100000) 2] ≠ 0 := he
  refine ac_body Try.func11 rfl (by kernel_rfl) fun w0 ok => ?_; show AWp _ (ctx0 w0 ok _) _ (ARet _ _ _) (entry _)
  (repeat' (first | (with_reducible first | intro hg | refine mv (by constructor) ?_) | ((with_reducible first | refine zR ?_ ?_ | refine zW mixed ?_ ?_); exact kr) | ((with_reducible apply zK); exact rfl; exact tf) | ((with_reducible apply zCD); exact rfl) | ((with_reducible apply zCN); exact rfl) | ((with_reducible apply zC); exact rfl) | ((with_reducible refine zX ?_ ?_); exact rfl) | ((with_reducible refine zE (And.intro ?_ ?_)); exact kr) | (with_reducible refine zE ?_) | ((with_reducible apply zP); (first | exact dp | exact oc rfl (hop))) | ((with_reducible apply zN); exact dn) | ((with_reducible apply zA); exact da) | ((with_reducible apply zS); exact ds) | ((with_reducible apply zY); exact rfl; exact rfl; exact tf) | ((with_reducible apply zG); exact rfl; exact rfl; exact tf) | ((with_reducible apply zU); exact rfl; exact rfl) | ((with_reducible apply zD); exact rfl; exact rfl) | ((with_reducible apply zB); exact rfl; exact rfl)))
  ((with_reducible first | apply q_retR | apply q_retN); exact rl)
  rfl

end Go.Proofs.Ytagpmpbmfjaiiaa
