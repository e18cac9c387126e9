/- Elimination of four equations over ratios (chapter 6): the plain law of Solve. Nothing of the program. -/
import Derived.Test.YtgjhikjnlcbmkaaM9
set_option linter.unusedVariables false
set_option linter.unusedSimpArgs false
namespace Go.Proofs.Ytgjhikjnlcbmkaa
open Go.RowKit
set_option maxRecDepth 20000

abbrev Mq := Nat → Nat → Rat
def detQ (m : Mq) : Rat :=
  m 0 0 * (m 1 1 * (m 2 2 * m 3 3 - m 2 3 * m 3 2) - m 1 2 * (m 2 1 * m 3 3 - m 2 3 * m 3 1) + m 1 3 * (m 2 1 * m 3 2 - m 2 2 * m 3 1))
  - m 0 1 * (m 1 0 * (m 2 2 * m 3 3 - m 2 3 * m 3 2) - m 1 2 * (m 2 0 * m 3 3 - m 2 3 * m 3 0) + m 1 3 * (m 2 0 * m 3 2 - m 2 2 * m 3 0))
  + m 0 2 * (m 1 0 * (m 2 1 * m 3 3 - m 2 3 * m 3 1) - m 1 1 * (m 2 0 * m 3 3 - m 2 3 * m 3 0) + m 1 3 * (m 2 0 * m 3 1 - m 2 1 * m 3 0))
  - m 0 3 * (m 1 0 * (m 2 1 * m 3 2 - m 2 2 * m 3 1) - m 1 1 * (m 2 0 * m 3 2 - m 2 2 * m 3 0) + m 1 2 * (m 2 0 * m 3 1 - m 2 1 * m 3 0))
def swapR (m : Mq) (a b : Nat) : Mq := fun i j => if i = a then m b j else if i = b then m a j else m i j
def subR (m : Mq) (c : Nat) (l : Nat → Rat) : Mq := fun i j => if i = c then m i j else m i j - l i * m c j
def Sol (m : Mq) (v : Nat → Rat) : Prop := ∀ i, i < 4 → m i 0 * v 0 + m i 1 * v 1 + m i 2 * v 2 + m i 3 * v 3 = m i 4
theorem sol_swap {m : Mq} {a b : Nat} (ha : a < 4) (hb : b < 4) {v : Nat → Rat} : Sol (swapR m a b) v ↔ Sol m v := by
  constructor
  · intro h i hi
    by_cases e : i = a
    · subst e
      have := h b hb
      unfold swapR at this
      by_cases e2 : b = i
      · subst e2; simpa using this
      · simpa [e2] using this
    · by_cases e2 : i = b
      · subst e2
        have := h a ha
        unfold swapR at this
        simpa using this
      · have := h i hi
        unfold swapR at this
        simpa [e, e2] using this
  · intro h i hi
    unfold swapR
    by_cases e : i = a
    · simp only [e, if_true]; exact h b hb
    · by_cases e2 : i = b
      · simp only [e2]
        by_cases e3 : b = a
        · simp only [e3, if_true]; exact h a ha
        · simp only [e3, if_false, if_true]; exact h a ha
      · simp only [e, e2, if_false]; exact h i hi
theorem sol_sub {m : Mq} {c : Nat} (hc : c < 4) {l : Nat → Rat} {v : Nat → Rat} : Sol (subR m c l) v ↔ Sol m v := by
  constructor
  · intro h i hi
    have h0 := h c hc
    have h1 := h i hi
    unfold subR at h0 h1
    by_cases e : i = c
    · subst e; simpa using h0
    · simp only [if_true] at h0
      simp only [e, if_false] at h1
      grind
  · intro h i hi
    have h0 := h c hc
    have h1 := h i hi
    unfold subR
    by_cases e : i = c
    · simp only [e, if_true]; exact h0
    · simp only [e, if_false]
      grind
theorem detQ_swap {m : Mq} : ∀ a b : Nat, a < 4 → b < 4 → a ≠ b → detQ (swapR m a b) = -detQ m := by
  intro a b ha hb hn
  have ha : a = 0 ∨ a = 1 ∨ a = 2 ∨ a = 3 := by omega
  have hb : b = 0 ∨ b = 1 ∨ b = 2 ∨ b = 3 := by omega
  rcases ha with rfl | rfl | rfl | rfl <;> rcases hb with rfl | rfl | rfl | rfl <;> first | exact absurd rfl hn | (simp [detQ, swapR]; grind)
theorem detQ_sub {m : Mq} {l : Nat → Rat} : ∀ c : Nat, c < 4 → detQ (subR m c l) = detQ m := by
  intro c hc
  have hc : c = 0 ∨ c = 1 ∨ c = 2 ∨ c = 3 := by omega
  rcases hc with rfl | rfl | rfl | rfl <;> (simp [detQ, subR]; grind)
def Dg (m : Mq) (c : Nat) : Prop := ∀ j, j < c → m j j ≠ 0 ∧ ∀ i, i < 4 → i ≠ j → m i j = 0
theorem dgm_step {m : Mq} {c a : Nat} (h : Dg m c) (ha : c ≤ a) (ha4 : a < 4) (hp : m a c ≠ 0) : Dg (subR (swapR m c a) c fun i => swapR m c a i c / swapR m c a c c) (c + 1) := by
  have hcc : swapR m c a c c = m a c := by unfold swapR; simp
  have hz : ∀ j, j < c → ∀ i, i < 4 → i ≠ j → swapR m c a i j = 0 := fun j hj i hi hne => by
    unfold swapR
    by_cases e : i = c
    · simp only [e, if_true]; exact (h j hj).2 a ha4 (by omega)
    · by_cases e2 : i = a
      · simp only [e, e2, if_false, if_true]
        have : ¬ a = c := fun x => e (e2.trans x)
        simp only [this, if_false]
        exact (h j hj).2 c (by omega) (by omega)
      · simp only [e, e2, if_false]; exact (h j hj).2 i hi hne
  have hd : ∀ j, j < c → swapR m c a j j = m j j := fun j hj => by
    unfold swapR
    rw [if_neg (by omega), if_neg (by omega)]
  intro j hj
  by_cases e : j = c
  · subst e
    refine ⟨?_, fun i hi hne => ?_⟩
    · unfold subR
      rw [if_pos rfl, hcc]; exact hp
    · unfold subR
      rw [if_neg hne, hcc]
      grind
  · have hj : j < c := by omega
    refine ⟨?_, fun i hi hne => ?_⟩
    · unfold subR
      rw [if_neg (by omega), hz j hj c (by omega) (by omega), hd j hj, Rat.mul_zero]
      have := (h j hj).1
      grind
    · unfold subR
      by_cases ec : i = c
      · rw [if_pos ec]; exact hz j hj i hi hne
      · rw [if_neg ec, hz j hj i hi hne, hz j hj c (by omega) (by omega), Rat.mul_zero]
        grind
theorem dgm_none {m : Mq} {c : Nat} (hc : c < 4) (h : Dg m c) (hz : ∀ i, c ≤ i → i < 4 → m i c = 0) : detQ m = 0 := by
  have hc : c = 0 ∨ c = 1 ∨ c = 2 ∨ c = 3 := by omega
  rcases hc with rfl | rfl | rfl | rfl
  · simp [detQ, hz 0 (by omega) (by omega), hz 1 (by omega) (by omega), hz 2 (by omega) (by omega), hz 3 (by omega) (by omega)]
    grind
  · have k := (h 0 (by omega)).2
    have k1 := k 1 (by omega) (by omega)
    have k2 := k 2 (by omega) (by omega)
    have k3 := k 3 (by omega) (by omega)
    have z1 := hz 1 (by omega) (by omega)
    have z2 := hz 2 (by omega) (by omega)
    have z3 := hz 3 (by omega) (by omega)
    unfold detQ
    rw [k1, k2, k3, z1, z2, z3]
    grind
  · have k := (h 0 (by omega)).2
    have k1 := k 1 (by omega) (by omega)
    have k2 := k 2 (by omega) (by omega)
    have k3 := k 3 (by omega) (by omega)
    have l := (h 1 (by omega)).2
    have l2 := l 2 (by omega) (by omega)
    have l3 := l 3 (by omega) (by omega)
    have z2 := hz 2 (by omega) (by omega)
    have z3 := hz 3 (by omega) (by omega)
    unfold detQ
    rw [k1, k2, k3, l2, l3, z2, z3]
    grind
  · have k := (h 0 (by omega)).2
    have k1 := k 1 (by omega) (by omega)
    have k2 := k 2 (by omega) (by omega)
    have k3 := k 3 (by omega) (by omega)
    have l := (h 1 (by omega)).2
    have l2 := l 2 (by omega) (by omega)
    have l3 := l 3 (by omega) (by omega)
    have n3 := (h 2 (by omega)).2 3 (by omega) (by omega)
    have z3 := hz 3 (by omega) (by omega)
    unfold detQ
    rw [k1, k2, k3, l2, l3, n3, z3]
    grind
theorem dgm_all {m : Mq} (h : Dg m 4) : detQ m ≠ 0 := by
  have h0 := h 0 (by omega)
  have h1 := h 1 (by omega)
  have h2 := h 2 (by omega)
  have h3 := h 3 (by omega)
  have e : detQ m = m 0 0 * (m 1 1 * (m 2 2 * m 3 3)) := by
    have a1 := h0.2 1 (by omega) (by omega)
    have a2 := h0.2 2 (by omega) (by omega)
    have a3 := h0.2 3 (by omega) (by omega)
    have b2 := h1.2 2 (by omega) (by omega)
    have b3 := h1.2 3 (by omega) (by omega)
    have c3 := h2.2 3 (by omega) (by omega)
    unfold detQ
    rw [a1, a2, a3, b2, b3, c3]
    grind
  rw [e]
  have k0 := h0.1
  have k1 := h1.1
  have k2 := h2.1
  have k3 := h3.1
  have mz : ∀ x y : Rat, x ≠ 0 → y ≠ 0 → x * y ≠ 0 := fun x y hx hy h => by grind
  exact mz _ _ k0 (mz _ _ k1 (mz _ _ k2 k3))
theorem dgm_sol {m : Mq} (h : Dg m 4) {v : Nat → Rat} (hv : Sol m v) {j : Nat} (hj : j < 4) : v j = m j 4 / m j j := by
  have hs := hv j hj
  have hn := (h j hj).1
  have z : ∀ i, i < 4 → i ≠ j → m j i = 0 := fun i hi hne => (h i hi).2 j hj (fun e => hne e.symm)
  have e : m j j * v j = m j 4 := by
    have hc : j = 0 ∨ j = 1 ∨ j = 2 ∨ j = 3 := by omega
    rcases hc with rfl | rfl | rfl | rfl
    · rw [z 1 (by omega) (by omega), z 2 (by omega) (by omega), z 3 (by omega) (by omega)] at hs; grind
    · rw [z 0 (by omega) (by omega), z 2 (by omega) (by omega), z 3 (by omega) (by omega)] at hs; grind
    · rw [z 0 (by omega) (by omega), z 1 (by omega) (by omega), z 3 (by omega) (by omega)] at hs; grind
    · rw [z 0 (by omega) (by omega), z 1 (by omega) (by omega), z 2 (by omega) (by omega)] at hs; grind
  rw [← e]
  grind

def pivQ (m : Mq) (c : Nat) : Nat → Nat → Nat
  | a, 0 => a
  | a, f + 1 => if m a c = 0 then pivQ m c (a + 1) f else a
theorem pivQ_rng (m : Mq) (c : Nat) : ∀ f a, a ≤ pivQ m c a f ∧ pivQ m c a f ≤ a + f ∧ (∀ i, a ≤ i → i < pivQ m c a f → m i c = 0) ∧ (pivQ m c a f < a + f → m (pivQ m c a f) c ≠ 0)
  | 0, a => ⟨Nat.le_refl _, Nat.le_refl _, fun i h1 h2 => absurd h2 (by show ¬ i < a; omega), fun h => absurd h (by show ¬ a < a + 0; omega)⟩
  | f + 1, a => by
    unfold pivQ
    by_cases h : m a c = 0
    · rw [if_pos h]
      obtain ⟨h1, h2, h3, h4⟩ := pivQ_rng m c f (a + 1)
      refine ⟨by omega, by omega, fun i g1 g2 => ?_, fun g => h4 (by omega)⟩
      by_cases e : i = a
      · rw [e]; exact h
      · exact h3 i (by omega) g2
    · rw [if_neg h]
      exact ⟨Nat.le_refl _, by omega, fun i g1 g2 => by omega, fun _ => h⟩
def stpQ (m : Mq) (c : Nat) : Mq := subR (swapR m c (pivQ m c c (4 - c))) c fun i => swapR m c (pivQ m c c (4 - c)) i c / swapR m c (pivQ m c c (4 - c)) c c
def slvQ (m : Mq) : Nat → Nat → Option Mq
  | _, 0 => some m
  | c, f + 1 => if pivQ m c c (4 - c) = 4 then none else slvQ (stpQ m c) (c + 1) f
theorem slvQ_none : ∀ {f : Nat} {m : Mq} {c : Nat}, c + f = 4 → Dg m c → slvQ m c f = none → detQ m = 0
  | 0, m, c, _, _, h => by cases h
  | f + 1, m, c, hc, hd, h => by
    obtain ⟨h1, h2, h3, h4⟩ := pivQ_rng m c (4 - c) c
    unfold slvQ at h
    by_cases hp : pivQ m c c (4 - c) = 4
    · exact dgm_none (by omega) hd fun i g1 g2 => h3 i g1 (by omega)
    · rw [if_neg hp] at h
      have hlt : pivQ m c c (4 - c) < 4 := by omega
      have hz := slvQ_none (c := c + 1) (by omega) (dgm_step hd h1 hlt (h4 (by omega))) h
      have e1 : detQ (stpQ m c) = detQ (swapR m c (pivQ m c c (4 - c))) := detQ_sub c (by omega)
      have e2 : detQ (swapR m c (pivQ m c c (4 - c))) = 0 := by rw [← e1]; exact hz
      by_cases e : c = pivQ m c c (4 - c)
      · have e3 : swapR m c (pivQ m c c (4 - c)) = m := by
          rw [← e]
          funext i j
          unfold swapR
          by_cases ei : i = c
          · rw [if_pos ei, ei]
          · rw [if_neg ei, if_neg ei]
        rw [e3] at e2; exact e2
      · rw [detQ_swap c _ (by omega) hlt e] at e2
        grind
theorem slvQ_some : ∀ {f : Nat} {m n : Mq} {c : Nat}, c + f = 4 → Dg m c → slvQ m c f = some n → Dg n 4 ∧ detQ m ≠ 0 ∧ ∀ v, Sol m v → Sol n v
  | 0, m, n, c, hc, hd, h => by
    injection h with h
    subst h
    have hc : c = 4 := by omega
    subst hc
    exact ⟨hd, dgm_all hd, fun _ h => h⟩
  | f + 1, m, n, c, hc, hd, h => by
    obtain ⟨h1, h2, h3, h4⟩ := pivQ_rng m c (4 - c) c
    unfold slvQ at h
    by_cases hp : pivQ m c c (4 - c) = 4
    · rw [if_pos hp] at h; cases h
    · rw [if_neg hp] at h
      have hlt : pivQ m c c (4 - c) < 4 := by omega
      obtain ⟨k1, k2, k3⟩ := slvQ_some (c := c + 1) (by omega) (dgm_step hd h1 hlt (h4 (by omega))) h
      refine ⟨k1, ?_, fun v hv => k3 v ((sol_sub (by omega)).2 ((sol_swap (by omega) hlt).2 hv))⟩
      have e1 : detQ (stpQ m c) = detQ (swapR m c (pivQ m c c (4 - c))) := detQ_sub c (by omega)
      have e2 : detQ (swapR m c (pivQ m c c (4 - c))) ≠ 0 := by rw [← e1]; exact k2
      by_cases e : c = pivQ m c c (4 - c)
      · have e3 : swapR m c (pivQ m c c (4 - c)) = m := by
          rw [← e]
          funext i j
          unfold swapR
          by_cases ei : i = c
          · rw [if_pos ei, ei]
          · rw [if_neg ei, if_neg ei]
        rw [e3] at e2; exact e2
      · rw [detQ_swap c _ (by omega) hlt e] at e2
        grind
theorem dgm_zero (m : Mq) : Dg m 0 := fun j hj => absurd hj (Nat.not_lt_zero j)
theorem slv_cramer {M : Mq} {D : Int} {p : Nat → Int} (hdet : detQ M = (D : Rat)) (hC : ∀ i, i < 4 → M i 0 * (p 0 : Rat) + M i 1 * (p 1 : Rat) + M i 2 * (p 2 : Rat) + M i 3 * (p 3 : Rat) = (D : Rat) * M i 4) :
    (slvQ M 0 4 = none → D = 0) ∧ ∀ n, slvQ M 0 4 = some n → D ≠ 0 ∧ ∀ j, j < 4 → n j 4 / n j j = (p j : Rat) / (D : Rat) := by
  constructor
  · intro h
    have := slvQ_none (c := 0) rfl (dgm_zero M) h
    rw [hdet] at this
    exact_mod_cast this
  · intro n h
    obtain ⟨h1, h2, h3⟩ := slvQ_some (c := 0) rfl (dgm_zero M) h
    rw [hdet] at h2
    have hs : Sol M fun j => (p j : Rat) / (D : Rat) := fun i hi => by
      have := hC i hi
      grind
    refine ⟨fun e => h2 (by rw [e]; rfl), fun j hj => ?_⟩
    exact (dgm_sol h1 (h3 _ hs) hj).symm


end Go.Proofs.Ytgjhikjnlcbmkaa
