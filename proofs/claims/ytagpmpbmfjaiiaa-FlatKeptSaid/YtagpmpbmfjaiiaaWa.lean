/- FlatKept: the positions that contradict each other, and rules of some positions alone. No walk. -/
import Derived.Test.YtagpmpbmfjaiiaaTy
set_option linter.unusedVariables false
set_option linter.unusedSimpArgs false
namespace Go.Proofs.Ytagpmpbmfjaiiaa
open Go.RowKit
set_option maxRecDepth 20000

/-- The positions of a set below k. -/
def posN (s k : Nat) : List Nat := (List.range k).filter (s.testBit ·)
theorem posTo_N (s : Nat) : ∀ k, posTo s k = (posN s k).map fun n : Nat => (n : Int)
  | 0 => rfl
  | k + 1 => by
    have h : decide ((((s / 2 ^ k) &&& 1 : Nat) : Int) = 1) = s.testBit k := by
      rw [Nat.and_one_is_mod, ← Nat.toNat_testBit]
      cases s.testBit k <;> rfl
    show (bif decide ((((s / 2 ^ k) &&& 1 : Nat) : Int) = 1) then posTo s k ++ [(k : Int)] else posTo s k) = _
    rw [h, posTo_N s k]
    unfold posN
    rw [List.range_succ, List.filter_append, List.map_append]
    cases hb : s.testBit k <;> simp [hb]
theorem posN_mem {s k j : Nat} : j ∈ posN s k ↔ j < k ∧ s.testBit j = true := by simp [posN]
theorem posN_sorted (s k : Nat) : (posN s k).Pairwise (· < ·) := List.Pairwise.filter _ List.pairwise_lt_range
theorem pickTo_spec {f : Nat → Bool} : ∀ k b, pickTo f k = some b → ∃ s, 0 < s ∧ s ≤ k ∧ f s = false ∧ b = posTo s 9 ∧ ∀ s', 0 < s' → s' ≤ k → f s' = false → b.length ≤ (posTo s' 9).length
  | 0, b, h => by
    have h : none = some b := h
    cases h
  | k + 1, b, h => by
    have h : pickS f (pickTo f k) (k + 1) = some b := h
    have ih := pickTo_spec (f := f) k
    have hn := pickTo_some (f := f) k
    unfold pickS at h
    generalize pickTo f k = y at *
    cases hf : f (k + 1)
    · rw [hf] at h
      rcases y with _ | c
      · have h : some (posTo (k + 1) 9) = some b := h
        cases h
        refine ⟨k + 1, by omega, Nat.le_refl _, hf, rfl, fun s' h1 h2 h3 => ?_⟩
        by_cases e : s' = k + 1
        · subst e; exact Nat.le_refl _
        · have := hn s' h1 (by omega) h3
          exact absurd this (by decide)
      · have h : (bif better (posTo (k + 1) 9) c then some (posTo (k + 1) 9) else some c) = some b := h
        obtain ⟨s, h1, h2, h3, h4, h5⟩ := ih c rfl
        cases hb : better (posTo (k + 1) 9) c
        · rw [hb] at h
          have h : some c = some b := h
          cases h
          refine ⟨s, h1, by omega, h3, h4, fun s' g1 g2 g3 => ?_⟩
          by_cases e : s' = k + 1
          · subst e
            unfold better at hb
            simp only [Bool.or_eq_false_iff, decide_eq_false_iff_not] at hb
            have := hb.1
            omega
          · exact h5 s' g1 (by omega) g3
        · rw [hb] at h
          have h : some (posTo (k + 1) 9) = some b := h
          cases h
          have hl : (posTo (k + 1) 9).length ≤ c.length := by
            unfold better at hb
            simp only [Bool.or_eq_true, Bool.and_eq_true, decide_eq_true_eq] at hb
            omega
          refine ⟨k + 1, by omega, Nat.le_refl _, hf, rfl, fun s' g1 g2 g3 => ?_⟩
          by_cases e : s' = k + 1
          · subst e; exact Nat.le_refl _
          · exact Nat.le_trans hl (h5 s' g1 (by omega) g3)
    · rw [hf] at h
      obtain ⟨s, h1, h2, h3, h4, h5⟩ := ih b h
      refine ⟨s, h1, by omega, h3, h4, fun s' g1 g2 g3 => ?_⟩
      by_cases e : s' = k + 1
      · subst e; rw [hf] at g3; cases g3
      · exact h5 s' g1 (by omega) g3
/-- Settings that keep a tolerance at some positions. -/
def KeepP (T : List Int) (A : List Act3) (m : Int) (p : List Nat) (xs : List Int) : Prop := ∀ j ∈ p, ((devP T A xs j).natAbs : Int) ≤ m
/-- What is known of the positions that contradict each other. -/
structure Contra (T : List Int) (A : List Act3) (m : Int) (L : List (List Int)) (p : List Nat) : Prop where
  pos : 0 < p.length
  len : p.length ≤ T.length
  lt : ∀ j ∈ p, j < T.length
  sorted : p.Pairwise (· < ·)
  no : ∀ k, k < L.length → ¬ KeepP T A m p (L.getD k [])
  yes : ∀ i, i < p.length → 2 ≤ p.length → ∃ k, k < L.length ∧ KeepP T A m (p.eraseIdx i) (L.getD k [])
theorem contP_ok {T : List Int} {A : List Act3} {m : Int} {L : List (List Int)} {b : List Int} (ht : T.length ≤ 9) (h : contP T A m L = some b) : ∃ p : List Nat, b = p.map (fun n : Nat => (n : Int)) ∧ Contra T A m L p := by
  rw [← refP_eq ht] at h
  obtain ⟨s, h0, hs, hf, hb, hmin⟩ := pickTo_spec _ _ h
  have hp : 0 < 2 ^ T.length := Nat.pow_pos (by decide)
  have hsl : s < 2 ^ T.length := by omega
  have hbit : ∀ j, s.testBit j = true → j < T.length := fun j hj => Nat.lt_of_not_le fun hge => by
    have := Nat.testBit_lt_two_pow (x := s) (i := j) (Nat.lt_of_lt_of_le hsl (Nat.pow_le_pow_right (by decide) hge))
    rw [this] at hj; exact absurd hj (by decide)
  have htab : ∀ t, anyTo (tog T A m L L.length) t (2 ^ T.length) = true ↔ ∃ k, k < L.length ∧ Subs t (keptTo T A (L.getD k []) m T.length) := fun t => by
    rw [anyTo_iff]
    constructor
    · rintro ⟨x, h1, h2, h3⟩
      obtain ⟨i, hi, rfl⟩ := (tog_iff L.length (Nat.le_refl _) x).1 h2
      exact ⟨i, hi, h3⟩
    · rintro ⟨k, hk, h3⟩
      exact ⟨_, keptTo_lt _, (tog_iff L.length (Nat.le_refl _) _).2 ⟨k, hk, rfl⟩, h3⟩
  have hsub : ∀ t k, (∀ j, t.testBit j = true → j < T.length) → (Subs t (keptTo T A (L.getD k []) m T.length) ↔ KeepP T A m (posN t 9) (L.getD k [])) := fun t k htl => by
    constructor
    · intro hS j hj
      have h1 := hS j (posN_mem.1 hj).2
      rw [keptTo_bit, Bool.and_eq_true, decide_eq_true_eq, decide_eq_true_eq] at h1
      exact h1.2
    · intro hK j hj
      have hjl := htl j hj
      have h1 := hK j (posN_mem.2 ⟨by omega, hj⟩)
      rw [keptTo_bit, decide_eq_true hjl, decide_eq_true h1]; rfl
  have hso := posN_sorted s 9
  rw [posTo_N] at hb
  refine ⟨posN s 9, hb, ?_, ?_, fun j hj => hbit j (posN_mem.1 hj).2, hso, fun k hk hK => ?_, fun i hi h2 => ?_⟩
  · have := posTo_ne s (by have : 2 ^ T.length ≤ 2 ^ 9 := Nat.pow_le_pow_right (by decide) ht; omega) h0
    rw [posTo_N] at this
    refine List.length_pos_iff.2 fun e => this ?_
    rw [e]; rfl
  · have h1 : (posN s 9).length = (posN s T.length).length := by
      have h2 := posTo_more hsl (9 - T.length)
      rw [show T.length + (9 - T.length) = 9 by omega, posTo_N, posTo_N] at h2
      have := congrArg List.length h2
      simpa using this
    rw [h1]
    have := List.length_filter_le (s.testBit ·) (List.range T.length)
    rw [List.length_range] at this
    exact this
  · have := (htab s).2 ⟨k, hk, (hsub s k hbit).2 hK⟩
    rw [hf] at this; cases this
  · -- the set without its i-th position
    generalize hj : (posN s 9)[i] = j
    have hjm : j ∈ posN s 9 := by rw [← hj]; exact List.getElem_mem hi
    have hj9 := posN_mem.1 hjm
    have hbo : ∀ x, (bitOff s (2 ^ j)).testBit x = (s.testBit x && !decide (x = j)) := bitOff_bit (by have : 2 ^ T.length ≤ 2 ^ 9 := Nat.pow_le_pow_right (by decide) ht; omega) (by omega)
    have hsplit : posN s 9 = (posN s 9).take i ++ j :: (posN s 9).drop (i + 1) := by
      rw [← hj, List.getElem_cons_drop, List.take_append_drop]
    have her : (posN s 9).eraseIdx i = (posN s 9).filter (fun x => !decide (x = j)) := by
      rw [List.eraseIdx_eq_take_drop_succ]
      have hso2 := hso
      rw [hsplit] at hso2
      have h3 := List.pairwise_append.1 hso2
      have h4 := List.pairwise_cons.1 h3.2.1
      conv => rhs; rw [hsplit]
      rw [List.filter_append, List.filter_cons_of_neg (by simp)]
      congr 1
      · refine (List.filter_eq_self.2 fun x hx => ?_).symm
        have := h3.2.2 x hx j (by simp)
        simp; omega
      · refine (List.filter_eq_self.2 fun x hx => ?_).symm
        have := h4.1 x hx
        simp; omega
    have hpn : posN (bitOff s (2 ^ j)) 9 = (posN s 9).eraseIdx i := by
      rw [her]
      unfold posN
      rw [List.filter_filter]
      refine List.filter_congr fun x _ => ?_
      rw [hbo, Bool.and_comm]
    have hlen : ((posN s 9).eraseIdx i).length = (posN s 9).length - 1 := List.length_eraseIdx_of_lt hi
    have hpos : 0 < bitOff s (2 ^ j) := by
      refine Nat.pos_of_ne_zero fun e => ?_
      have : posN (bitOff s (2 ^ j)) 9 = [] := by rw [e]; decide
      rw [hpn] at this
      rw [this] at hlen
      simp at hlen
      omega
    have hle : bitOff s (2 ^ j) ≤ s := bitOff_le (by have : 2 ^ T.length ≤ 2 ^ 9 := Nat.pow_le_pow_right (by decide) ht; omega)
    have htrue : anyTo (tog T A m L L.length) (bitOff s (2 ^ j)) (2 ^ T.length) = true := by
      refine Decidable.byContradiction fun hne => ?_
      have h1 := hmin (bitOff s (2 ^ j)) hpos (by omega) (Bool.eq_false_iff.2 hne)
      rw [posTo_N, hpn, hb] at h1
      simp only [List.length_map] at h1
      omega
    obtain ⟨k, hk, hS⟩ := (htab _).1 htrue
    refine ⟨k, hk, ?_⟩
    rw [← hpn]
    refine (hsub _ k fun x hx => ?_).1 hS
    rw [hbo] at hx
    exact hbit x (Bool.and_eq_true_iff.1 hx).1

/-- The rules of some positions alone. -/
def subT (T : List Int) (p : List Nat) : List Int := p.map (nth T)
def subA1 (p : List Nat) (a : Act3) : Act3 := ⟨a.lo, a.hi, p.map (nth a.eff)⟩
def subA (A : List Act3) (p : List Nat) : List Act3 := A.map (subA1 p)
theorem nth_map (T : List Int) (p : List Nat) {i : Nat} (hi : i < p.length) : nth (p.map (nth T)) i = nth T (p.getD i 0) := by
  unfold nth
  rw [List.getD_eq_getElem?_getD, List.getD_eq_getElem?_getD (l := p), List.getElem?_map, List.getElem?_eq_getElem hi]; rfl
theorem subA_get (A : List Act3) (p : List Nat) {k : Nat} (hk : k < A.length) : (subA A p).getD k a0 = subA1 p (A.getD k a0) := by
  unfold subA
  rw [List.getD_eq_getElem?_getD, List.getD_eq_getElem?_getD (l := A), List.getElem?_map, List.getElem?_eq_getElem hk]; rfl
theorem devTo_sub (T : List Int) (A : List Act3) (p : List Nat) (xs : List Int) {i : Nat} (hi : i < p.length) : ∀ k, k ≤ A.length → devTo (subT T p) (subA A p) xs i k = devTo T A xs (p.getD i 0) k
  | 0, _ => nth_map T p hi
  | k + 1, hk => by
    show devTo (subT T p) (subA A p) xs i k - nth xs k * nth ((subA A p).getD k a0).eff i = devTo T A xs (p.getD i 0) k - nth xs k * nth (A.getD k a0).eff (p.getD i 0)
    rw [devTo_sub T A p xs hi k (by omega), subA_get A p (by omega)]
    show _ - nth xs k * nth (p.map (nth (A.getD k a0).eff)) i = _
    rw [nth_map _ p hi]
theorem keepB_sub {T : List Int} {A : List Act3} {m : Int} (hm : 0 ≤ m) (p : List Nat) (xs : List Int) : keepB (subT T p) (subA A p) m xs = true ↔ KeepP T A m p xs := by
  have hl : (subT T p).length = p.length := List.length_map ..
  have hla : (subA A p).length = A.length := List.length_map ..
  unfold keepB
  rw [decide_eq_true_eq]
  unfold maxP
  rw [hl, maxTo_le hm]
  unfold devP
  rw [hla]
  constructor
  · intro h j hj
    obtain ⟨i, hi, rfl⟩ := List.mem_iff_getElem.1 hj
    have := h i hi
    rw [devTo_sub T A p xs hi _ (Nat.le_refl _), List.getD_eq_getElem?_getD, List.getElem?_eq_getElem hi] at this
    exact this
  · intro h i hi
    rw [devTo_sub T A p xs hi _ (Nat.le_refl _)]
    exact h _ (by rw [List.getD_eq_getElem?_getD, List.getElem?_eq_getElem hi]; exact List.getElem_mem hi)
theorem RulOk.sub {T : List Int} {A : List Act3} (h : RulOk T A) {p : List Nat} (h0 : 0 < p.length) (h9 : p.length ≤ 9) (hp : ∀ j ∈ p, j < T.length) : RulOk (subT T p) (subA A p) := by
  have hl : (subT T p).length = p.length := List.length_map ..
  have hla : (subA A p).length = A.length := List.length_map ..
  refine ⟨by omega, by omega, fun x hx => ?_, by rw [hla]; exact h.a0, by rw [hla]; exact h.a3, fun a ha => ?_⟩
  · obtain ⟨j, hj, rfl⟩ := List.mem_map.1 hx
    exact h.tb _ (nth_mem (hp j hj))
  · obtain ⟨c, hc, rfl⟩ := List.mem_map.1 ha
    obtain ⟨h1, h2, h3, h4, h5⟩ := h.b c hc
    refine ⟨h1, h2, h3, by rw [hl]; exact List.length_map .., fun x hx => ?_⟩
    obtain ⟨j, hj, rfl⟩ := List.mem_map.1 hx
    exact h5 _ (nth_mem (by rw [h4]; exact hp j hj))
theorem RulOk.no_err {T : List Int} {A : List Act3} (h : RulOk T A) : rulE T A = (0, 0) := by
  have any0 : ∀ (l : List Int) (c : Int), (∀ x ∈ l, -c ≤ x ∧ x ≤ c) → (!(l.any fun x => !inR x (-c) c)) = true := fun l c hl => by
    rw [Bool.not_eq_true', List.any_eq_false]
    intro x hx
    rw [inR_true.2 (hl x hx)]; decide
  have u : ∀ {b : Bool} {n : Int}, b = true → unl b n = 0 := fun h => by rw [h]; rfl
  have hh : rulH T A = 0 := by
    unfold rulH
    have h1 := h.t0
    have h2 := h.t9
    have h3 := h.a0
    have h4 := h.a3
    rw [u (decide_eq_true (by omega)), u (decide_eq_true (by omega)), u (any0 T 100000 h.tb), u (decide_eq_true (by omega)), u (decide_eq_true (by omega))]
    rfl
  have ha : ∀ a ∈ A, actE T.length a = 0 := fun a ha => by
    obtain ⟨h1, h2, h3, h4, h5⟩ := h.b a ha
    unfold actE
    rw [inR_true.2 h1, inR_true.2 h2, u (b := true && true) rfl, u (decide_eq_true h3), u (decide_eq_true (by omega)), u (any0 a.eff 1000 h5)]
    rfl
  have hs : ∀ (B : List Act3) (k : Nat), (∀ a ∈ B, actE T.length a = 0) → actsE T.length B k = (0, 0) := fun B => by
    induction B with
    | nil => intro k _; rfl
    | cons a B ih =>
      intro k hB
      rw [actsE_zero (hB a (by simp))]
      exact ih _ fun b hb => hB b (by simp [hb])
  unfold rulE
  rw [hh]
  exact hs A 0 ha
theorem allS_sub : ∀ (A : List Act3) (p : List Nat), allS (subA A p) = allS A
  | [], _ => rfl
  | a :: A, p => by
    show upTo (fun x => (allS (subA A p)).map (x :: ·)) a.lo (cntA a) = _
    rw [allS_sub A p]; rfl

/-- The positions of the first k that are not left out (s: one more than the one that is left out). -/
def remTo (p : List Nat) (s : Nat) : Nat → List Nat
  | 0 => []
  | k + 1 => bif decide (k + 1 = s) then remTo p s k else remTo p s k ++ [p.getD k 0]
theorem remTo_len (p : List Nat) (s : Nat) : ∀ k, (remTo p s k).length ≤ k
  | 0 => Nat.le_refl _
  | k + 1 => by
    have := remTo_len p s k
    show (bif decide (k + 1 = s) then remTo p s k else remTo p s k ++ [p.getD k 0]).length ≤ _
    cases decide (k + 1 = s)
    · show (remTo p s k ++ [p.getD k 0]).length ≤ _
      rw [List.length_append, List.length_singleton]; omega
    · show (remTo p s k).length ≤ _; omega
theorem remTo_eq (p : List Nat) (s : Nat) : ∀ k, k ≤ p.length → remTo p s k = (bif decide (1 ≤ s) && decide (s ≤ k) then (p.take k).eraseIdx (s - 1) else p.take k)
  | 0, _ => by
    have : (decide (1 ≤ s) && decide (s ≤ 0)) = false := by
      rw [Bool.and_eq_false_iff, decide_eq_false_iff_not, decide_eq_false_iff_not]; omega
    rw [this]; rfl
  | k + 1, hk => by
    have ih := remTo_eq p s k (by omega)
    have htk : p.take (k + 1) = p.take k ++ [p.getD k 0] := by
      rw [List.take_add_one, List.getD_eq_getElem?_getD, List.getElem?_eq_getElem hk]; rfl
    show (bif decide (k + 1 = s) then remTo p s k else remTo p s k ++ [p.getD k 0]) = _
    rw [ih, htk]
    have hlk : (p.take k).length = k := by rw [List.length_take]; omega
    by_cases h1 : k + 1 = s
    · subst h1
      rw [decide_eq_true rfl, decide_eq_false (show ¬ k + 1 ≤ k by omega), Bool.and_false, decide_eq_true (show 1 ≤ k + 1 by omega), decide_eq_true (Nat.le_refl (k + 1))]
      show p.take k = (p.take k ++ [p.getD k 0]).eraseIdx k
      rw [List.eraseIdx_append_of_length_le (by omega), hlk, Nat.sub_self]
      simp
    · rw [decide_eq_false h1]
      by_cases h2 : 1 ≤ s ∧ s ≤ k
      · rw [decide_eq_true h2.1, decide_eq_true h2.2, decide_eq_true (show s ≤ k + 1 by omega)]
        show (p.take k).eraseIdx (s - 1) ++ _ = (p.take k ++ [p.getD k 0]).eraseIdx (s - 1)
        rw [List.eraseIdx_append_of_lt_length (by omega)]
      · have e1 : (decide (1 ≤ s) && decide (s ≤ k)) = false := by
          rw [Bool.and_eq_false_iff, decide_eq_false_iff_not, decide_eq_false_iff_not]; omega
        have e2 : (decide (1 ≤ s) && decide (s ≤ k + 1)) = false := by
          rw [Bool.and_eq_false_iff, decide_eq_false_iff_not, decide_eq_false_iff_not]; omega
        rw [e1, e2]; rfl
theorem remTo_none (p : List Nat) : remTo p 0 p.length = p := by
  rw [remTo_eq p 0 _ (Nat.le_refl _)]
  exact List.take_length
theorem remTo_some (p : List Nat) {s : Nat} (h : s < p.length) : remTo p (s + 1) p.length = p.eraseIdx s := by
  rw [remTo_eq p (s + 1) _ (Nat.le_refl _), decide_eq_true (by omega), decide_eq_true (by omega), List.take_length]; rfl
theorem remTo_mem (p : List Nat) (s : Nat) : ∀ k, k ≤ p.length → ∀ j ∈ remTo p s k, j ∈ p
  | 0, _, j, h => by
    have h : j ∈ ([] : List Nat) := h
    simp at h
  | k + 1, hk, j, h => by
    have ih := remTo_mem p s k (by omega) j
    have h : j ∈ (bif decide (k + 1 = s) then remTo p s k else remTo p s k ++ [p.getD k 0]) := h
    cases hd : decide (k + 1 = s)
    · rw [hd] at h
      have h : j ∈ remTo p s k ++ [p.getD k 0] := h
      rcases List.mem_append.1 h with h | h
      · exact ih h
      · rw [List.mem_singleton.1 h, List.getD_eq_getElem?_getD, List.getElem?_eq_getElem hk]
        exact List.getElem_mem _
    · rw [hd] at h; exact ih h
/-- The answer of FirstWithin. -/
def firstR (T : List Int) (A : List Act3) (m : Int) : DV := match (allS A).find? (keepB T A m) with
  | some l => .tuple [isl l, I 0]
  | none => .tuple [nilV, I 12]
/-- The rules of the positions alone can't be kept; without one of them they can. -/
theorem first_sub {T : List Int} {A : List Act3} {m : Int} (hm : 0 ≤ m) {p : List Nat} (hc : Contra T A m (allS A) p) {s : Nat} (hs : s ≤ p.length) (hne : remTo p s p.length ≠ []) :
    ((allS (subA A (remTo p s p.length))).find? (keepB (subT T (remTo p s p.length)) (subA A (remTo p s p.length)) m)).isSome = decide (1 ≤ s) := by
  rw [allS_sub]
  rcases s with _ | s
  · rw [remTo_none, decide_eq_false (by omega), Option.isSome_eq_false_iff, Option.isNone_iff_eq_none, List.find?_eq_none]
    intro x hx hk
    obtain ⟨k, hk2, rfl⟩ := List.mem_iff_getElem.1 hx
    refine hc.no k hk2 ?_
    rw [List.getD_eq_getElem?_getD, List.getElem?_eq_getElem hk2]
    exact (keepB_sub hm p _).1 hk
  · have hs : s < p.length := hs
    rw [remTo_some p hs] at hne ⊢
    rw [decide_eq_true (by omega), List.find?_isSome]
    have h2 : 2 ≤ p.length := by
      refine Decidable.byContradiction fun h => hne ?_
      refine List.length_eq_zero_iff.1 ?_
      rw [List.length_eraseIdx_of_lt hs]; omega
    obtain ⟨k, hk, hK⟩ := hc.yes s hs h2
    refine ⟨_, List.getElem_mem hk, ?_⟩
    rw [List.getD_eq_getElem?_getD, List.getElem?_eq_getElem hk] at hK
    exact (keepB_sub hm _ _).2 hK

end Go.Proofs.Ytagpmpbmfjaiiaa
