/- Monitors: outputs, and when they rest. Nothing of the program. -/
import Derived.Test.YtiabcffcbhlbiaaM6
set_option linter.unusedVariables false
set_option linter.unusedSimpArgs false
namespace Go.Proofs.Ytiabcffcbhlbiaa
open Go.RowKit
set_option maxRecDepth 20000

/-- A monitor: by how many ticks it is late, the gain, the band. -/
structure Mon where
  d : Nat
  num : Int
  den : Int
  band : Int
/-- What an output is corrected by. -/
def Mon.cr (m : Mon) (y : Int) : Int := bif decide ((y.natAbs : Int) > m.band) then (m.num * y).tdiv m.den else 0
/-- The outputs before a tick, and the correction at it. -/
def Mon.st (m : Mon) (f : Nat → Int) : Nat → List Int × Int
  | 0 => ([], 0)
  | t + 1 => ((m.st f t).1 ++ [f t + (m.st f t).2], bif decide (t < m.d) then (m.st f t).2 else (m.st f t).2 - m.cr (nth ((m.st f t).1 ++ [f t + (m.st f t).2]) (t - m.d)))
def Mon.cor (m : Mon) (f : Nat → Int) (t : Nat) : Int := (m.st f t).2
def Mon.out (m : Mon) (f : Nat → Int) (t : Nat) : Int := f t + m.cor f t
theorem Mon.st_list (m : Mon) (f : Nat → Int) : ∀ t, (m.st f t).1 = lst (m.out f) t
  | 0 => rfl
  | t + 1 => by
    show (m.st f t).1 ++ [m.out f t] = _
    rw [m.st_list f t, lst_succ]
theorem Mon.cor_succ (m : Mon) (f : Nat → Int) (t : Nat) : m.cor f (t + 1) = bif decide (t < m.d) then m.cor f t else m.cor f t - m.cr (m.out f (t - m.d)) := by
  have h : m.cor f (t + 1) = bif decide (t < m.d) then m.cor f t else m.cor f t - m.cr (nth ((m.st f t).1 ++ [m.out f t]) (t - m.d)) := rfl
  rw [h, m.st_list f t, ← lst_succ, lst_nth _ (by omega)]
theorem Mon.cor_lt (m : Mon) (f : Nat → Int) {t : Nat} (h : t < m.d) : m.cor f (t + 1) = m.cor f t := by rw [cor_succ, decide_eq_true h]; rfl
theorem Mon.cor_ge (m : Mon) (f : Nat → Int) {t : Nat} (h : m.d ≤ t) : m.cor f (t + 1) = m.cor f t - m.cr (m.out f (t - m.d)) := by rw [cor_succ, decide_eq_false (by omega)]; rfl
/-- The outputs at the ticks before t depend on the disturbances at them alone. -/
theorem Mon.st_congr (m : Mon) {f g : Nat → Int} : ∀ t, (∀ j, j < t → f j = g j) → m.st f t = m.st g t
  | 0, _ => rfl
  | t + 1, h => by
    have ih := m.st_congr t fun j hj => h j (by omega)
    show ((m.st f t).1 ++ [f t + (m.st f t).2], _) = ((m.st g t).1 ++ [g t + (m.st g t).2], _)
    rw [ih, h t (by omega)]
/-- The same number so many times from a on. -/
def cst (o : Nat → Int) (a n : Nat) : Prop := ∀ j, j < n → o (a + j) = o a
theorem Mon.rests (m : Mon) (D : Int) {r : Nat} (h : cst (m.out fun _ => D) r (m.d + 2)) : m.cr (m.out (fun _ => D) r) = 0 ∧ ∀ j, m.out (fun _ => D) (r + j) = m.out (fun _ => D) r := by
  have hs : ∀ t, m.d ≤ t → m.out (fun _ => D) (t + 1) = m.out (fun _ => D) t - m.cr (m.out (fun _ => D) (t - m.d)) := fun t ht => by
    show D + m.cor _ (t + 1) = D + m.cor _ t - _
    rw [m.cor_ge _ ht]; omega
  have h0 : m.cr (m.out (fun _ => D) r) = 0 := by
    have h1 := hs (r + m.d) (by omega)
    rw [Nat.add_sub_cancel, show r + m.d + 1 = r + (m.d + 1) by omega, h (m.d + 1) (by omega), h m.d (by omega)] at h1
    omega
  refine ⟨h0, fun j => ?_⟩
  induction j using Nat.strongRecOn with
  | _ j ih =>
    by_cases hj : j < m.d + 2
    · exact h j hj
    · obtain ⟨i, rfl⟩ : ∃ i, j = i + 1 := ⟨j - 1, by omega⟩
      rw [show r + (i + 1) = r + i + 1 by omega, hs (r + i) (by omega), ih i (by omega), show r + i - m.d = r + (i - m.d) by omega, ih (i - m.d) (by omega), h0]
      omega
/-- What RestsAfter knows behind so many ticks. -/
structure RestI (o : Nat → Int) (d k : Nat) (rest : Int) (s : Nat) : Prop where
  le : s ≤ k
  pos : k = 0 ∨ 1 ≤ s
  cs : cst o (k - s) s
  mx : s = k ∨ o (k - s - 1) ≠ o (k - s)
  rs : (rest = -1 ∧ s < d + 2 ∧ ∀ a, a + (d + 2) ≤ k → ¬ cst o a (d + 2)) ∨ ∃ r : Nat, rest = r ∧ r + (d + 2) ≤ k ∧ cst o r (d + 2) ∧ (r = 0 ∨ o (r - 1) ≠ o r)
theorem RestI.start (o : Nat → Int) (d : Nat) : RestI o d 0 (-1) 0 := ⟨Nat.le_refl _, .inl rfl, fun j hj => by omega, .inl rfl, .inl ⟨rfl, by omega, fun a ha => by omega⟩⟩
theorem RestI.same {o : Nat → Int} {d k : Nat} {rest : Int} {s : Nat} (h : RestI o d k rest s) (hs : 0 < s) (he : o k = o (k - 1)) : RestI o d (k + 1) (bif decide ((d : Int) + 2 ≤ (s : Int) + 1) && decide (rest < 0) then (k : Int) - (s + 1) + 1 else rest) (s + 1) := by
  have h1 := h.le
  have hk1 : o (k - 1) = o (k - s) := by
    have := h.cs (s - 1) (by omega)
    rwa [show k - s + (s - 1) = k - 1 by omega] at this
  have hcs : cst o (k - s) (s + 1) := fun j hj => by
    by_cases e : j = s
    · subst e; rw [show k - j + j = k by omega, he, hk1]
    · exact h.cs j (by omega)
  have hmx : s + 1 = k + 1 ∨ o (k + 1 - (s + 1) - 1) ≠ o (k + 1 - (s + 1)) := by
    rw [show k + 1 - (s + 1) = k - s by omega]
    rcases h.mx with e | e
    · exact .inl (by omega)
    · exact .inr e
  refine ⟨by omega, .inr (by omega), by rw [show k + 1 - (s + 1) = k - s by omega]; exact hcs, hmx, ?_⟩
  rcases h.rs with ⟨e1, e2, e3⟩ | ⟨r, e1, e2, e3, e4⟩
  · by_cases hd : d + 2 ≤ s + 1
    · rw [decide_eq_true (by omega), decide_eq_true (by omega)]
      refine .inr ⟨k - s, ?_, by omega, ?_, ?_⟩
      · show (k : Int) - (s + 1) + 1 = _
        omega
      · rw [show d + 2 = s + 1 by omega]; exact hcs
      · rcases h.mx with e | e
        · exact .inl (by omega)
        · exact .inr e
    · rw [decide_eq_false (by omega)]
      refine .inl ⟨e1, by omega, fun a ha hc => ?_⟩
      by_cases hak : a + (d + 2) ≤ k
      · exact e3 a hak hc
      · rcases h.mx with e | e
        · omega
        · refine e ?_
          have h5 := hc (k - s - 1 - a) (by omega)
          have h6 := hc (k - s - a) (by omega)
          rw [show a + (k - s - 1 - a) = k - s - 1 by omega] at h5
          rw [show a + (k - s - a) = k - s by omega] at h6
          rw [h5, h6]
  · rw [decide_eq_false (show ¬ rest < 0 by omega), Bool.and_false]
    exact .inr ⟨r, e1, by omega, e3, e4⟩
theorem RestI.new {o : Nat → Int} {d k : Nat} {rest : Int} {s : Nat} (h : RestI o d k rest s) (he : k = 0 ∨ o k ≠ o (k - 1)) : RestI o d (k + 1) rest 1 := by
  refine ⟨by omega, .inr (Nat.le_refl _), fun j hj => by rw [show j = 0 by omega]; rfl, ?_, ?_⟩
  · rcases he with e | e
    · exact .inl (by omega)
    · exact .inr (by rw [Nat.add_sub_cancel]; exact Ne.symm e)
  · rcases h.rs with ⟨e1, e2, e3⟩ | ⟨r, e1, e2, e3, e4⟩
    · refine .inl ⟨e1, by omega, fun a ha hc => ?_⟩
      by_cases hak : a + (d + 2) ≤ k
      · exact e3 a hak hc
      · rcases he with e | e
        · omega
        · refine e ?_
          have h5 := hc (k - a) (by omega)
          have h6 := hc (k - 1 - a) (by omega)
          rw [show a + (k - a) = k by omega] at h5
          rw [show a + (k - 1 - a) = k - 1 by omega] at h6
          rw [h5, h6]
    · exact .inr ⟨r, e1, by omega, e3, e4⟩

end Go.Proofs.Ytiabcffcbhlbiaa
