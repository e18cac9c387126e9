/- Merged: XWa XWd XWo XWp. -/
import Derived.Test.YtagpmpbmfjaiiaaGreatDoorTA
import Derived.Test.YtagpmpbmfjaiiaaGreatDoorM9
import Derived.Test.YtagpmpbmfjaiiaaGreatDoorTf
import Derived.Test.YtagpmpbmfjaiiaaGreatDoorPA
set_option linter.unusedVariables false
set_option linter.unusedSimpArgs false
/- FlatKept: the positions that contradict each other, and rules of some positions alone. No walk. -/
namespace Go.Proofs.YtagpmpbmfjaiiaaGreatDoor
open Go.RowKit
set_option maxRecDepth 20000

/-- The positions of a set below k. -/
def posN (s k : Nat) : List Nat := (List.range k).filter (s.testBit ·)
theorem posTo_N (s : Nat) : ∀ k, posTo s k = (posN s k).map fun n : Nat => (n : Int)
  | 0 => rfl
  | k + 1 => by
    have h : decide ((((s / 2 ^ k) &&& 1 : Nat) : Int) = 1) = s.testBit k := by
      rw [Nat.and_one_is_mod, ← Nat.toNat_testBit]
      cases s.testBit k <;> rfl
    show (bif decide ((((s / 2 ^ k) &&& 1 : Nat) : Int) = 1) then posTo s k ++ [(k : Int)] else posTo s k) = _
    rw [h, posTo_N s k]
    unfold posN
    rw [List.range_succ, List.filter_append, List.map_append]
    cases hb : s.testBit k <;> simp [hb]
theorem posN_mem {s k j : Nat} : j ∈ posN s k ↔ j < k ∧ s.testBit j = true := by simp [posN]
theorem posN_sorted (s k : Nat) : (posN s k).Pairwise (· < ·) := List.Pairwise.filter _ List.pairwise_lt_range
theorem pickTo_spec {f : Nat → Bool} : ∀ k b, pickTo f k = some b → ∃ s, 0 < s ∧ s ≤ k ∧ f s = false ∧ b = posTo s 9 ∧ ∀ s', 0 < s' → s' ≤ k → f s' = false → b.length ≤ (posTo s' 9).length
  | 0, b, h => by
    have h : none = some b := h
    cases h
  | k + 1, b, h => by
    have h : pickS f (pickTo f k) (k + 1) = some b := h
    have ih := pickTo_spec (f := f) k
    have hn := pickTo_some (f := f) k
    unfold pickS at h
    generalize pickTo f k = y at *
    cases hf : f (k + 1)
    · rw [hf] at h
      rcases y with _ | c
      · have h : some (posTo (k + 1) 9) = some b := h
        cases h
        refine ⟨k + 1, by omega, Nat.le_refl _, hf, rfl, fun s' h1 h2 h3 => ?_⟩
        by_cases e : s' = k + 1
        · subst e; exact Nat.le_refl _
        · have := hn s' h1 (by omega) h3
          exact absurd this (by decide)
      · have h : (bif better (posTo (k + 1) 9) c then some (posTo (k + 1) 9) else some c) = some b := h
        obtain ⟨s, h1, h2, h3, h4, h5⟩ := ih c rfl
        cases hb : better (posTo (k + 1) 9) c
        · rw [hb] at h
          have h : some c = some b := h
          cases h
          refine ⟨s, h1, by omega, h3, h4, fun s' g1 g2 g3 => ?_⟩
          by_cases e : s' = k + 1
          · subst e
            unfold better at hb
            simp only [Bool.or_eq_false_iff, decide_eq_false_iff_not] at hb
            have := hb.1
            omega
          · exact h5 s' g1 (by omega) g3
        · rw [hb] at h
          have h : some (posTo (k + 1) 9) = some b := h
          cases h
          have hl : (posTo (k + 1) 9).length ≤ c.length := by
            unfold better at hb
            simp only [Bool.or_eq_true, Bool.and_eq_true, decide_eq_true_eq] at hb
            omega
          refine ⟨k + 1, by omega, Nat.le_refl _, hf, rfl, fun s' g1 g2 g3 => ?_⟩
          by_cases e : s' = k + 1
          · subst e; exact Nat.le_refl _
          · exact Nat.le_trans hl (h5 s' g1 (by omega) g3)
    · rw [hf] at h
      obtain ⟨s, h1, h2, h3, h4, h5⟩ := ih b h
      refine ⟨s, h1, by omega, h3, h4, fun s' g1 g2 g3 => ?_⟩
      by_cases e : s' = k + 1
      · subst e; rw [hf] at g3; cases g3
      · exact h5 s' g1 (by omega) g3
/-- Settings that keep a tolerance at some positions. -/
def KeepP (T : List Int) (A : List Act3) (m : Int) (p : List Nat) (xs : List Int) : Prop := ∀ j ∈ p, ((devP T A xs j).natAbs : Int) ≤ m
/-- What is known of the positions that contradict each other. -/
structure Contra (T : List Int) (A : List Act3) (m : Int) (L : List (List Int)) (p : List Nat) : Prop where
  pos : 0 < p.length
  len : p.length ≤ T.length
  lt : ∀ j ∈ p, j < T.length
  sorted : p.Pairwise (· < ·)
  no : ∀ k, k < L.length → ¬ KeepP T A m p (L.getD k [])
  yes : ∀ i, i < p.length → 2 ≤ p.length → ∃ k, k < L.length ∧ KeepP T A m (p.eraseIdx i) (L.getD k [])
theorem contP_ok {T : List Int} {A : List Act3} {m : Int} {L : List (List Int)} {b : List Int} (ht : T.length ≤ 9) (h : contP T A m L = some b) : ∃ p : List Nat, b = p.map (fun n : Nat => (n : Int)) ∧ Contra T A m L p := by
  rw [← refP_eq ht] at h
  obtain ⟨s, h0, hs, hf, hb, hmin⟩ := pickTo_spec _ _ h
  have hp : 0 < 2 ^ T.length := Nat.pow_pos (by decide)
  have hsl : s < 2 ^ T.length := by omega
  have hbit : ∀ j, s.testBit j = true → j < T.length := fun j hj => Nat.lt_of_not_le fun hge => by
    have := Nat.testBit_lt_two_pow (x := s) (i := j) (Nat.lt_of_lt_of_le hsl (Nat.pow_le_pow_right (by decide) hge))
    rw [this] at hj; exact absurd hj (by decide)
  have htab : ∀ t, anyTo (tog T A m L L.length) t (2 ^ T.length) = true ↔ ∃ k, k < L.length ∧ Subs t (keptTo T A (L.getD k []) m T.length) := fun t => by
    rw [anyTo_iff]
    constructor
    · rintro ⟨x, h1, h2, h3⟩
      obtain ⟨i, hi, rfl⟩ := (tog_iff L.length (Nat.le_refl _) x).1 h2
      exact ⟨i, hi, h3⟩
    · rintro ⟨k, hk, h3⟩
      exact ⟨_, keptTo_lt _, (tog_iff L.length (Nat.le_refl _) _).2 ⟨k, hk, rfl⟩, h3⟩
  have hsub : ∀ t k, (∀ j, t.testBit j = true → j < T.length) → (Subs t (keptTo T A (L.getD k []) m T.length) ↔ KeepP T A m (posN t 9) (L.getD k [])) := fun t k htl => by
    constructor
    · intro hS j hj
      have h1 := hS j (posN_mem.1 hj).2
      rw [keptTo_bit, Bool.and_eq_true, decide_eq_true_eq, decide_eq_true_eq] at h1
      exact h1.2
    · intro hK j hj
      have hjl := htl j hj
      have h1 := hK j (posN_mem.2 ⟨by omega, hj⟩)
      rw [keptTo_bit, decide_eq_true hjl, decide_eq_true h1]; rfl
  have hso := posN_sorted s 9
  rw [posTo_N] at hb
  refine ⟨posN s 9, hb, ?_, ?_, fun j hj => hbit j (posN_mem.1 hj).2, hso, fun k hk hK => ?_, fun i hi h2 => ?_⟩
  · have := posTo_ne s (by have : 2 ^ T.length ≤ 2 ^ 9 := Nat.pow_le_pow_right (by decide) ht; omega) h0
    rw [posTo_N] at this
    refine List.length_pos_iff.2 fun e => this ?_
    rw [e]; rfl
  · have h1 : (posN s 9).length = (posN s T.length).length := by
      have h2 := posTo_more hsl (9 - T.length)
      rw [show T.length + (9 - T.length) = 9 by omega, posTo_N, posTo_N] at h2
      have := congrArg List.length h2
      simpa using this
    rw [h1]
    have := List.length_filter_le (s.testBit ·) (List.range T.length)
    rw [List.length_range] at this
    exact this
  · have := (htab s).2 ⟨k, hk, (hsub s k hbit).2 hK⟩
    rw [hf] at this; cases this
  · -- the set without its i-th position
    generalize hj : (posN s 9)[i] = j
    have hjm : j ∈ posN s 9 := by rw [← hj]; exact List.getElem_mem hi
    have hj9 := posN_mem.1 hjm
    have hbo : ∀ x, (bitOff s (2 ^ j)).testBit x = (s.testBit x && !decide (x = j)) := bitOff_bit (by have : 2 ^ T.length ≤ 2 ^ 9 := Nat.pow_le_pow_right (by decide) ht; omega) (by omega)
    have hsplit : posN s 9 = (posN s 9).take i ++ j :: (posN s 9).drop (i + 1) := by
      rw [← hj, List.getElem_cons_drop, List.take_append_drop]
    have her : (posN s 9).eraseIdx i = (posN s 9).filter (fun x => !decide (x = j)) := by
      rw [List.eraseIdx_eq_take_drop_succ]
      have hso2 := hso
      rw [hsplit] at hso2
      have h3 := List.pairwise_append.1 hso2
      have h4 := List.pairwise_cons.1 h3.2.1
      conv => rhs; rw [hsplit]
      rw [List.filter_append, List.filter_cons_of_neg (by simp)]
      congr 1
      · refine (List.filter_eq_self.2 fun x hx => ?_).symm
        have := h3.2.2 x hx j (by simp)
        simp; omega
      · refine (List.filter_eq_self.2 fun x hx => ?_).symm
        have := h4.1 x hx
        simp; omega
    have hpn : posN (bitOff s (2 ^ j)) 9 = (posN s 9).eraseIdx i := by
      rw [her]
      unfold posN
      rw [List.filter_filter]
      refine List.filter_congr fun x _ => ?_
      rw [hbo, Bool.and_comm]
    have hlen : ((posN s 9).eraseIdx i).length = (posN s 9).length - 1 := List.length_eraseIdx_of_lt hi
    have hpos : 0 < bitOff s (2 ^ j) := by
      refine Nat.pos_of_ne_zero fun e => ?_
      have : posN (bitOff s (2 ^ j)) 9 = [] := by rw [e]; decide
      rw [hpn] at this
      rw [this] at hlen
      simp at hlen
      omega
    have hle : bitOff s (2 ^ j) ≤ s := bitOff_le (by have : 2 ^ T.length ≤ 2 ^ 9 := Nat.pow_le_pow_right (by decide) ht; omega)
    have htrue : anyTo (tog T A m L L.length) (bitOff s (2 ^ j)) (2 ^ T.length) = true := by
      refine Decidable.byContradiction fun hne => ?_
      have h1 := hmin (bitOff s (2 ^ j)) hpos (by omega) (Bool.eq_false_iff.2 hne)
      rw [posTo_N, hpn, hb] at h1
      simp only [List.length_map] at h1
      omega
    obtain ⟨k, hk, hS⟩ := (htab _).1 htrue
    refine ⟨k, hk, ?_⟩
    rw [← hpn]
    refine (hsub _ k fun x hx => ?_).1 hS
    rw [hbo] at hx
    exact hbit x (Bool.and_eq_true_iff.1 hx).1

/-- The rules of some positions alone. -/
def subT (T : List Int) (p : List Nat) : List Int := p.map (nth T)
def subA1 (p : List Nat) (a : Act3) : Act3 := ⟨a.lo, a.hi, p.map (nth a.eff)⟩
def subA (A : List Act3) (p : List Nat) : List Act3 := A.map (subA1 p)
theorem nth_map (T : List Int) (p : List Nat) {i : Nat} (hi : i < p.length) : nth (p.map (nth T)) i = nth T (p.getD i 0) := by
  unfold nth
  rw [List.getD_eq_getElem?_getD, List.getD_eq_getElem?_getD (l := p), List.getElem?_map, List.getElem?_eq_getElem hi]; rfl
theorem subA_get (A : List Act3) (p : List Nat) {k : Nat} (hk : k < A.length) : (subA A p).getD k a0 = subA1 p (A.getD k a0) := by
  unfold subA
  rw [List.getD_eq_getElem?_getD, List.getD_eq_getElem?_getD (l := A), List.getElem?_map, List.getElem?_eq_getElem hk]; rfl
theorem devTo_sub (T : List Int) (A : List Act3) (p : List Nat) (xs : List Int) {i : Nat} (hi : i < p.length) : ∀ k, k ≤ A.length → devTo (subT T p) (subA A p) xs i k = devTo T A xs (p.getD i 0) k
  | 0, _ => nth_map T p hi
  | k + 1, hk => by
    show devTo (subT T p) (subA A p) xs i k - nth xs k * nth ((subA A p).getD k a0).eff i = devTo T A xs (p.getD i 0) k - nth xs k * nth (A.getD k a0).eff (p.getD i 0)
    rw [devTo_sub T A p xs hi k (by omega), subA_get A p (by omega)]
    show _ - nth xs k * nth (p.map (nth (A.getD k a0).eff)) i = _
    rw [nth_map _ p hi]
theorem keepB_sub {T : List Int} {A : List Act3} {m : Int} (hm : 0 ≤ m) (p : List Nat) (xs : List Int) : keepB (subT T p) (subA A p) m xs = true ↔ KeepP T A m p xs := by
  have hl : (subT T p).length = p.length := List.length_map ..
  have hla : (subA A p).length = A.length := List.length_map ..
  unfold keepB
  rw [decide_eq_true_eq]
  unfold maxP
  rw [hl, maxTo_le hm]
  unfold devP
  rw [hla]
  constructor
  · intro h j hj
    obtain ⟨i, hi, rfl⟩ := List.mem_iff_getElem.1 hj
    have := h i hi
    rw [devTo_sub T A p xs hi _ (Nat.le_refl _), List.getD_eq_getElem?_getD, List.getElem?_eq_getElem hi] at this
    exact this
  · intro h i hi
    rw [devTo_sub T A p xs hi _ (Nat.le_refl _)]
    exact h _ (by rw [List.getD_eq_getElem?_getD, List.getElem?_eq_getElem hi]; exact List.getElem_mem hi)
theorem RulOk.sub {T : List Int} {A : List Act3} (h : RulOk T A) {p : List Nat} (h0 : 0 < p.length) (h9 : p.length ≤ 9) (hp : ∀ j ∈ p, j < T.length) : RulOk (subT T p) (subA A p) := by
  have hl : (subT T p).length = p.length := List.length_map ..
  have hla : (subA A p).length = A.length := List.length_map ..
  refine ⟨by omega, by omega, fun x hx => ?_, by rw [hla]; exact h.a0, by rw [hla]; exact h.a3, fun a ha => ?_⟩
  · obtain ⟨j, hj, rfl⟩ := List.mem_map.1 hx
    exact h.tb _ (nth_mem (hp j hj))
  · obtain ⟨c, hc, rfl⟩ := List.mem_map.1 ha
    obtain ⟨h1, h2, h3, h4, h5⟩ := h.b c hc
    refine ⟨h1, h2, h3, by rw [hl]; exact List.length_map .., fun x hx => ?_⟩
    obtain ⟨j, hj, rfl⟩ := List.mem_map.1 hx
    exact h5 _ (nth_mem (by rw [h4]; exact hp j hj))
theorem RulOk.no_err {T : List Int} {A : List Act3} (h : RulOk T A) : rulE T A = (0, 0) := by
  have any0 : ∀ (l : List Int) (c : Int), (∀ x ∈ l, -c ≤ x ∧ x ≤ c) → (!(l.any fun x => !inR x (-c) c)) = true := fun l c hl => by
    rw [Bool.not_eq_true', List.any_eq_false]
    intro x hx
    rw [inR_true.2 (hl x hx)]; decide
  have u : ∀ {b : Bool} {n : Int}, b = true → unl b n = 0 := fun h => by rw [h]; rfl
  have hh : rulH T A = 0 := by
    unfold rulH
    have h1 := h.t0
    have h2 := h.t9
    have h3 := h.a0
    have h4 := h.a3
    rw [u (decide_eq_true (by omega)), u (decide_eq_true (by omega)), u (any0 T 100000 h.tb), u (decide_eq_true (by omega)), u (decide_eq_true (by omega))]
    rfl
  have ha : ∀ a ∈ A, actE T.length a = 0 := fun a ha => by
    obtain ⟨h1, h2, h3, h4, h5⟩ := h.b a ha
    unfold actE
    rw [inR_true.2 h1, inR_true.2 h2, u (b := true && true) rfl, u (decide_eq_true h3), u (decide_eq_true (by omega)), u (any0 a.eff 1000 h5)]
    rfl
  have hs : ∀ (B : List Act3) (k : Nat), (∀ a ∈ B, actE T.length a = 0) → actsE T.length B k = (0, 0) := fun B => by
    induction B with
    | nil => intro k _; rfl
    | cons a B ih =>
      intro k hB
      rw [actsE_zero (hB a (by simp))]
      exact ih _ fun b hb => hB b (by simp [hb])
  unfold rulE
  rw [hh]
  exact hs A 0 ha
theorem allS_sub : ∀ (A : List Act3) (p : List Nat), allS (subA A p) = allS A
  | [], _ => rfl
  | a :: A, p => by
    show upTo (fun x => (allS (subA A p)).map (x :: ·)) a.lo (cntA a) = _
    rw [allS_sub A p]; rfl

/-- The positions of the first k that are not left out (s: one more than the one that is left out). -/
def remTo (p : List Nat) (s : Nat) : Nat → List Nat
  | 0 => []
  | k + 1 => bif decide (k + 1 = s) then remTo p s k else remTo p s k ++ [p.getD k 0]
theorem remTo_eq (p : List Nat) (s : Nat) : ∀ k, k ≤ p.length → remTo p s k = (bif decide (1 ≤ s) && decide (s ≤ k) then (p.take k).eraseIdx (s - 1) else p.take k)
  | 0, _ => by
    have : (decide (1 ≤ s) && decide (s ≤ 0)) = false := by
      rw [Bool.and_eq_false_iff, decide_eq_false_iff_not, decide_eq_false_iff_not]; omega
    rw [this]; rfl
  | k + 1, hk => by
    have ih := remTo_eq p s k (by omega)
    have htk : p.take (k + 1) = p.take k ++ [p.getD k 0] := by
      rw [List.take_add_one, List.getD_eq_getElem?_getD, List.getElem?_eq_getElem hk]; rfl
    show (bif decide (k + 1 = s) then remTo p s k else remTo p s k ++ [p.getD k 0]) = _
    rw [ih, htk]
    have hlk : (p.take k).length = k := by rw [List.length_take]; omega
    by_cases h1 : k + 1 = s
    · subst h1
      rw [decide_eq_true rfl, decide_eq_false (show ¬ k + 1 ≤ k by omega), Bool.and_false, decide_eq_true (show 1 ≤ k + 1 by omega), decide_eq_true (Nat.le_refl (k + 1))]
      show p.take k = (p.take k ++ [p.getD k 0]).eraseIdx k
      rw [List.eraseIdx_append_of_length_le (by omega), hlk, Nat.sub_self]
      simp
    · rw [decide_eq_false h1]
      by_cases h2 : 1 ≤ s ∧ s ≤ k
      · rw [decide_eq_true h2.1, decide_eq_true h2.2, decide_eq_true (show s ≤ k + 1 by omega)]
        show (p.take k).eraseIdx (s - 1) ++ _ = (p.take k ++ [p.getD k 0]).eraseIdx (s - 1)
        rw [List.eraseIdx_append_of_lt_length (by omega)]
      · have e1 : (decide (1 ≤ s) && decide (s ≤ k)) = false := by
          rw [Bool.and_eq_false_iff, decide_eq_false_iff_not, decide_eq_false_iff_not]; omega
        have e2 : (decide (1 ≤ s) && decide (s ≤ k + 1)) = false := by
          rw [Bool.and_eq_false_iff, decide_eq_false_iff_not, decide_eq_false_iff_not]; omega
        rw [e1, e2]; rfl
theorem remTo_none (p : List Nat) : remTo p 0 p.length = p := by
  rw [remTo_eq p 0 _ (Nat.le_refl _)]
  exact List.take_length
theorem remTo_some (p : List Nat) {s : Nat} (h : s < p.length) : remTo p (s + 1) p.length = p.eraseIdx s := by
  rw [remTo_eq p (s + 1) _ (Nat.le_refl _), decide_eq_true (by omega), decide_eq_true (by omega), List.take_length]; rfl
/-- The rules of the positions alone can't be kept; without one of them they can. -/
theorem first_sub {T : List Int} {A : List Act3} {m : Int} (hm : 0 ≤ m) {p : List Nat} (hc : Contra T A m (allS A) p) {s : Nat} (hs : s ≤ p.length) (hne : remTo p s p.length ≠ []) :
    ((allS (subA A (remTo p s p.length))).find? (keepB (subT T (remTo p s p.length)) (subA A (remTo p s p.length)) m)).isSome = decide (1 ≤ s) := by
  rw [allS_sub]
  rcases s with _ | s
  · rw [remTo_none, decide_eq_false (by omega), Option.isSome_eq_false_iff, Option.isNone_iff_eq_none, List.find?_eq_none]
    intro x hx hk
    obtain ⟨k, hk2, rfl⟩ := List.mem_iff_getElem.1 hx
    refine hc.no k hk2 ?_
    rw [List.getD_eq_getElem?_getD, List.getElem?_eq_getElem hk2]
    exact (keepB_sub hm p _).1 hk
  · have hs : s < p.length := hs
    rw [remTo_some p hs] at hne ⊢
    rw [decide_eq_true (by omega), List.find?_isSome]
    have h2 : 2 ≤ p.length := by
      refine Decidable.byContradiction fun h => hne ?_
      refine List.length_eq_zero_iff.1 ?_
      rw [List.length_eraseIdx_of_lt hs]; omega
    obtain ⟨k, hk, hK⟩ := hc.yes s hs h2
    refine ⟨_, List.getElem_mem hk, ?_⟩
    rw [List.getD_eq_getElem?_getD, List.getElem?_eq_getElem hk] at hK
    exact (keepB_sub hm _ _).2 hK

end Go.Proofs.YtagpmpbmfjaiiaaGreatDoor

/- FlatKept: small lemmas for its walk. -/
namespace Go.Proofs.YtagpmpbmfjaiiaaGreatDoor
open Go.RowKit
set_option maxRecDepth 20000

abbrev posV (p : List Nat) : DV := .slice p.length (p.map fun n : Nat => I n)
theorem posV_eq (p : List Nat) : isl (p.map fun n : Nat => (n : Int)) = posV p := by
  show DV.slice (p.map _).length ((p.map _).map I) = _
  rw [List.length_map, List.map_map]; rfl
theorem sub_snoc (f : Nat → Int) (R : List Nat) (j : Nat) : ivs (R.map f) ++ [I (f j)] = ivs ((R ++ [j]).map f) := by simp [ivs]
theorem isl_takeK (xs : List Int) {n : Nat} (h : xs.length = n) : DV.slice n ((ivs xs).take (n * 1)) = isl xs := by
  subst h
  rw [List.take_of_length_le (by simp [ivs])]
end Go.Proofs.YtagpmpbmfjaiiaaGreatDoor

/- The best settings are the first ones with their maximum. Nothing of the program. -/
namespace Go.Proofs.YtagpmpbmfjaiiaaGreatDoor
open Go.RowKit
set_option maxRecDepth 20000

theorem bstK_first (f : List Int → Int) (L : List (List Int)) : ∀ k, k ≤ L.length → ∀ b n, bstK f L k = some (b, n) → ∃ j, j < k ∧ b = L.getD j [] ∧ n = f b ∧ ∀ i, i < j → n < f (L.getD i [])
  | 0, _, b, n, h => by
    have h : (none : Option (List Int × Int)) = some (b, n) := h
    cases h
  | k + 1, hk, b, n, h => by
    rw [bstK_succ f (N := L.getD k []) (by omega) rfl] at h
    cases hp : bstK f L k with
    | none =>
      rw [hp] at h
      have h : some (L.getD k [], f (L.getD k [])) = some (b, n) := h
      injection h with h
      injection h with h1 h2
      have hk0 : k = 0 := by
        refine Nat.eq_zero_of_not_pos fun h0 => ?_
        obtain ⟨b', n', e⟩ := bstK_is f (L := L) h0 (by omega)
        rw [hp] at e; cases e
      subst hk0
      exact ⟨0, by omega, h1.symm, by rw [← h1, h2], fun i hi => absurd hi (by omega)⟩
    | some p =>
      obtain ⟨b', n'⟩ := p
      rw [hp] at h
      obtain ⟨j, h1, h2, h3, h4⟩ := bstK_first f L k (by omega) b' n' hp
      have h : (bif decide (f (L.getD k []) < n') then some (L.getD k [], f (L.getD k [])) else some (b', n')) = some (b, n) := h
      by_cases hlt : f (L.getD k []) < n'
      · rw [decide_eq_true hlt] at h
        injection h with h
        injection h with e1 e2
        refine ⟨k, by omega, e1.symm, by rw [← e1, e2], fun i hi => ?_⟩
        have h5 := (bstK_mem f L k (by omega) b' n' hp).2.2 i hi
        omega
      · rw [decide_eq_false hlt] at h
        injection h with h
        injection h with e1 e2
        subst e1 e2
        exact ⟨j, by omega, h2, h3, h4⟩
theorem cmpI_lt {x y : Int} (h : x < y) : cmpI x y = -1 := by unfold cmpI; simp [h]
theorem cmpI_gt {x y : Int} (h : y < x) : cmpI x y = 1 := by
  have h1 : ¬ x < y := by omega
  unfold cmpI; simp [h, h1]
theorem cmpI_eq (x : Int) : cmpI x x = 0 := by unfold cmpI; simp
theorem cmp_self : ∀ (xs : List Int), cmpL xs xs = 0
  | [] => rfl
  | x :: xs => by
    unfold cmpL
    rw [cmpI_eq]
    exact cmp_self xs
theorem cmp_cons (x y : Int) (xs ys : List Int) : cmpL (x :: xs) (y :: ys) < 0 ↔ x < y ∨ x = y ∧ cmpL xs ys < 0 := by
  have e : cmpL (x :: xs) (y :: ys) = bif cmpI x y == 0 then cmpL xs ys else cmpI x y := rfl
  rw [e]
  rcases Int.lt_trichotomy x y with h | h | h
  · rw [cmpI_lt h]
    exact ⟨fun _ => .inl h, fun _ => show (-1 : Int) < 0 by decide⟩
  · subst h
    rw [cmpI_eq]
    exact ⟨fun h => .inr ⟨rfl, h⟩, fun h => (h.resolve_left (by omega)).2⟩
  · rw [cmpI_gt h]
    exact ⟨fun h2 => absurd (show (1 : Int) < 0 from h2) (by decide), fun h2 => by rcases h2 with h2 | ⟨h2, _⟩ <;> omega⟩
theorem cmp_nil (ys : List Int) : ¬ cmpL [] ys < 0 ∧ ¬ cmpL ys [] < 0 := by
  cases ys with
  | nil => exact ⟨by decide, by decide⟩
  | cons y ys => exact ⟨by unfold cmpL; decide, by unfold cmpL; decide⟩
theorem cmp_trans : ∀ (xs ys zs : List Int), cmpL xs ys < 0 → cmpL ys zs < 0 → cmpL xs zs < 0
  | [], ys, _, h, _ => absurd h (cmp_nil ys).1
  | x :: xs, [], _, h, _ => absurd h (cmp_nil _).2
  | x :: xs, y :: ys, [], _, h => absurd h (cmp_nil _).2
  | x :: xs, y :: ys, z :: zs, h1, h2 => by
    rw [cmp_cons] at h1 h2 ⊢
    rcases h1 with h1 | ⟨h1, g1⟩
    · rcases h2 with h2 | ⟨h2, _⟩ <;> exact .inl (by omega)
    · rcases h2 with h2 | ⟨h2, g2⟩
      · exact .inl (by omega)
      · exact .inr ⟨by omega, cmp_trans xs ys zs g1 g2⟩
theorem cmp_asym (xs ys : List Int) (h : cmpL xs ys < 0) : ¬ cmpL ys xs < 0 := fun h2 => by
  have := cmp_trans xs ys xs h h2
  rw [cmp_self] at this
  omega
theorem nextS_lt : ∀ (A : List Act3) (l l' : List Int), nextS A l = some l' → cmpL l l' < 0
  | [], l, l', h => by cases l <;> cases h
  | a :: A, [], l', h => by cases h
  | a :: A, x :: xs, l', h => by
    unfold nextS at h
    cases hn : nextS A xs with
    | some ys =>
      rw [hn] at h
      have h : some (x :: ys) = some l' := h
      injection h with h
      subst h
      rw [cmp_cons]
      exact .inr ⟨rfl, nextS_lt A xs ys hn⟩
    | none =>
      rw [hn] at h
      have h : (if x = a.hi then none else some ((x + 1) :: A.map Act3.lo)) = some l' := h
      by_cases hx : x = a.hi
      · rw [if_pos hx] at h; cases h
      · rw [if_neg hx] at h
        injection h with h
        subst h
        rw [cmp_cons]
        exact .inl (by omega)
theorem chain_lt {A : List Act3} {L : List (List Int)} (h : ChainS A L) (i : Nat) : ∀ d, i + d + 1 < L.length → cmpL (L.getD i []) (L.getD (i + d + 1) []) < 0
  | 0, hd => nextS_lt A _ _ (h.step i hd)
  | d + 1, hd => cmp_trans _ _ _ (chain_lt h i d (by omega)) (nextS_lt A _ _ (h.step (i + d + 1) hd))
theorem chain_not {A : List Act3} {L : List (List Int)} (h : ChainS A L) {i j : Nat} (hij : j ≤ i) (hi : i < L.length) : ¬ cmpL (L.getD i []) (L.getD j []) < 0 := by
  by_cases e : i = j
  · subst e
    rw [cmp_self]; decide
  · obtain ⟨d, rfl⟩ : ∃ d, i = j + d + 1 := ⟨i - j - 1, by omega⟩
    exact cmp_asym _ _ (chain_lt h j d hi)
/-- The best settings: the first ones with their maximum. -/
theorem bestS_first {T : List Int} {A : List Act3} (h : RulOk T A) : ∃ j, j < (allS A).length ∧ (bestS T A).1 = (allS A).getD j [] ∧ (∀ i, i < j → (bestS T A).2 < maxP T A ((allS A).getD i [])) ∧ ∀ i, i < (allS A).length → (bestS T A).2 = maxP T A ((allS A).getD i []) → ¬ cmpL ((allS A).getD i []) (bestS T A).1 < 0 := by
  have hb := bestS_eq h
  obtain ⟨j, h1, h2, _, h4⟩ := bstK_first (maxP T A) (allS A) _ (Nat.le_refl _) _ _ hb
  refine ⟨j, h1, h2, h4, fun i hi he => ?_⟩
  have e : ¬ cmpL ((allS A).getD i []) ((allS A).getD j []) < 0 := by
   refine chain_not (allS_ok h).chain (Nat.le_of_not_lt fun hlt => ?_) hi
   have := h4 i hlt
   rw [← he] at this
   exact absurd this (Int.lt_irrefl _)
  have h2' : (bestS T A).1 = (allS A).getD j [] := h2
  rwa [h2']

end Go.Proofs.YtagpmpbmfjaiiaaGreatDoor

/- TopFlatBest: small lemmas for its walk; what its best settings are. -/
namespace Go.Proofs.YtagpmpbmfjaiiaaGreatDoor
open Go.RowKit
set_option maxRecDepth 20000

def dropSeq : Nat → Code → Code
  | 0, c => c
  | n + 1, .seq _ y => dropSeq n y
  | _ + 1, c => c
theorem takeN {p : List Nat} {k : Nat} (h : k < p.length) : p.take (k + 1) = p.take k ++ [p.getD k 0] := by
  rw [List.take_add_one, List.getD_eq_getElem?_getD, List.getElem?_eq_getElem h]; rfl
/-- The positions alone have a greater best maximum. -/
theorem contra_best {T : List Int} {A : List Act3} {n : Int} (h : RulOk T A) (h1 : 1 ≤ n) {p : List Nat} (hc : Contra T A (n - 1) (allS A) p) : ∃ b m, n ≤ m ∧ AC Tryz.prog 40 [rulV (subT T p) (subA A p)] (.tuple [isl b, I m, I 0]) := by
  have hpl := hc.len
  have ht9 := h.t9
  have hok := h.sub (p := p) hc.pos (by omega) hc.lt
  refine ⟨_, _, ?_, best_ok _ _ hok hok.no_err⟩
  obtain ⟨b1, b2, _⟩ := bestS_ok hok
  have hne : remTo p 0 p.length ≠ [] := by
    rw [remTo_none]
    exact List.length_pos_iff.1 hc.pos
  have hf := first_sub (T := T) (A := A) (m := n - 1) (by omega) hc (Nat.zero_le _) hne
  rw [remTo_none, decide_eq_false (by decide)] at hf
  have hf2 := Option.not_isSome_iff_eq_none.1 (by rw [hf]; decide)
  have hk := List.find?_eq_none.1 hf2 _ b1
  refine Int.not_lt.1 fun hlt => hk ?_
  show decide (maxP _ _ _ ≤ n - 1) = true
  rw [← b2]
  exact decide_eq_true (by omega)

end Go.Proofs.YtagpmpbmfjaiiaaGreatDoor
