/- Merged: XUm XUn. -/
import Derived.Test.YtfcfmpdpjmbcnaaGreatM6
set_option linter.unusedVariables false
set_option linter.unusedSimpArgs false
/- Monitors: outputs, and when they rest. Nothing of the program. -/
namespace Go.Proofs.YtfcfmpdpjmbcnaaGreat
open Go.RowKit
set_option maxRecDepth 20000

/-- A monitor: by how many ticks it is late, the gain, the band. -/
structure Mon where
  d : Nat
  num : Int
  den : Int
  band : Int
/-- What an output is corrected by. -/
def Mon.cr (m : Mon) (y : Int) : Int := bif decide ((y.natAbs : Int) > m.band) then (m.num * y).tdiv m.den else 0
/-- The outputs before a tick, and the correction at it. -/
def Mon.st (m : Mon) (f : Nat → Int) : Nat → List Int × Int
  | 0 => ([], 0)
  | t + 1 => ((m.st f t).1 ++ [f t + (m.st f t).2], bif decide (t < m.d) then (m.st f t).2 else (m.st f t).2 - m.cr (nth ((m.st f t).1 ++ [f t + (m.st f t).2]) (t - m.d)))
def Mon.cor (m : Mon) (f : Nat → Int) (t : Nat) : Int := (m.st f t).2
def Mon.out (m : Mon) (f : Nat → Int) (t : Nat) : Int := f t + m.cor f t
theorem Mon.st_list (m : Mon) (f : Nat → Int) : ∀ t, (m.st f t).1 = lst (m.out f) t
  | 0 => rfl
  | t + 1 => by
    show (m.st f t).1 ++ [m.out f t] = _
    rw [m.st_list f t, lst_succ]
theorem Mon.cor_succ (m : Mon) (f : Nat → Int) (t : Nat) : m.cor f (t + 1) = bif decide (t < m.d) then m.cor f t else m.cor f t - m.cr (m.out f (t - m.d)) := by
  have h : m.cor f (t + 1) = bif decide (t < m.d) then m.cor f t else m.cor f t - m.cr (nth ((m.st f t).1 ++ [m.out f t]) (t - m.d)) := rfl
  rw [h, m.st_list f t, ← lst_succ, lst_nth _ (by omega)]
theorem Mon.cor_lt (m : Mon) (f : Nat → Int) {t : Nat} (h : t < m.d) : m.cor f (t + 1) = m.cor f t := by rw [cor_succ, decide_eq_true h]; rfl
theorem Mon.cor_ge (m : Mon) (f : Nat → Int) {t : Nat} (h : m.d ≤ t) : m.cor f (t + 1) = m.cor f t - m.cr (m.out f (t - m.d)) := by rw [cor_succ, decide_eq_false (by omega)]; rfl
/-- The same number so many times from a on. -/
def cst (o : Nat → Int) (a n : Nat) : Prop := ∀ j, j < n → o (a + j) = o a
theorem Mon.rests (m : Mon) (D : Int) {r : Nat} (h : cst (m.out fun _ => D) r (m.d + 2)) : m.cr (m.out (fun _ => D) r) = 0 ∧ ∀ j, m.out (fun _ => D) (r + j) = m.out (fun _ => D) r := by
  have hs : ∀ t, m.d ≤ t → m.out (fun _ => D) (t + 1) = m.out (fun _ => D) t - m.cr (m.out (fun _ => D) (t - m.d)) := fun t ht => by
    show D + m.cor _ (t + 1) = D + m.cor _ t - _
    rw [m.cor_ge _ ht]; omega
  have h0 : m.cr (m.out (fun _ => D) r) = 0 := by
    have h1 := hs (r + m.d) (by omega)
    rw [Nat.add_sub_cancel, show r + m.d + 1 = r + (m.d + 1) by omega, h (m.d + 1) (by omega), h m.d (by omega)] at h1
    omega
  refine ⟨h0, fun j => ?_⟩
  induction j using Nat.strongRecOn with
  | _ j ih =>
    by_cases hj : j < m.d + 2
    · exact h j hj
    · obtain ⟨i, rfl⟩ : ∃ i, j = i + 1 := ⟨j - 1, by omega⟩
      rw [show r + (i + 1) = r + i + 1 by omega, hs (r + i) (by omega), ih i (by omega), show r + i - m.d = r + (i - m.d) by omega, ih (i - m.d) (by omega), h0]
      omega
/-- What RestsAfter knows behind so many ticks. -/
structure RestI (o : Nat → Int) (d k : Nat) (rest : Int) (s : Nat) : Prop where
  le : s ≤ k
  pos : k = 0 ∨ 1 ≤ s
  cs : cst o (k - s) s
  mx : s = k ∨ o (k - s - 1) ≠ o (k - s)
  rs : (rest = -1 ∧ s < d + 2 ∧ ∀ a, a + (d + 2) ≤ k → ¬ cst o a (d + 2)) ∨ ∃ r : Nat, rest = r ∧ r + (d + 2) ≤ k ∧ cst o r (d + 2) ∧ (r = 0 ∨ o (r - 1) ≠ o r)
theorem RestI.start (o : Nat → Int) (d : Nat) : RestI o d 0 (-1) 0 := ⟨Nat.le_refl _, .inl rfl, fun j hj => by omega, .inl rfl, .inl ⟨rfl, by omega, fun a ha => by omega⟩⟩
theorem RestI.same {o : Nat → Int} {d k : Nat} {rest : Int} {s : Nat} (h : RestI o d k rest s) (hs : 0 < s) (he : o k = o (k - 1)) : RestI o d (k + 1) (bif decide ((d : Int) + 2 ≤ (s : Int) + 1) && decide (rest < 0) then (k : Int) - (s + 1) + 1 else rest) (s + 1) := by
  have h1 := h.le
  have hk1 : o (k - 1) = o (k - s) := by
    have := h.cs (s - 1) (by omega)
    rwa [show k - s + (s - 1) = k - 1 by omega] at this
  have hcs : cst o (k - s) (s + 1) := fun j hj => by
    by_cases e : j = s
    · subst e; rw [show k - j + j = k by omega, he, hk1]
    · exact h.cs j (by omega)
  have hmx : s + 1 = k + 1 ∨ o (k + 1 - (s + 1) - 1) ≠ o (k + 1 - (s + 1)) := by
    rw [show k + 1 - (s + 1) = k - s by omega]
    rcases h.mx with e | e
    · exact .inl (by omega)
    · exact .inr e
  refine ⟨by omega, .inr (by omega), by rw [show k + 1 - (s + 1) = k - s by omega]; exact hcs, hmx, ?_⟩
  rcases h.rs with ⟨e1, e2, e3⟩ | ⟨r, e1, e2, e3, e4⟩
  · by_cases hd : d + 2 ≤ s + 1
    · rw [decide_eq_true (by omega), decide_eq_true (by omega)]
      refine .inr ⟨k - s, ?_, by omega, ?_, ?_⟩
      · show (k : Int) - (s + 1) + 1 = _
        omega
      · rw [show d + 2 = s + 1 by omega]; exact hcs
      · rcases h.mx with e | e
        · exact .inl (by omega)
        · exact .inr e
    · rw [decide_eq_false (by omega)]
      refine .inl ⟨e1, by omega, fun a ha hc => ?_⟩
      by_cases hak : a + (d + 2) ≤ k
      · exact e3 a hak hc
      · rcases h.mx with e | e
        · omega
        · refine e ?_
          have h5 := hc (k - s - 1 - a) (by omega)
          have h6 := hc (k - s - a) (by omega)
          rw [show a + (k - s - 1 - a) = k - s - 1 by omega] at h5
          rw [show a + (k - s - a) = k - s by omega] at h6
          rw [h5, h6]
  · rw [decide_eq_false (show ¬ rest < 0 by omega), Bool.and_false]
    exact .inr ⟨r, e1, by omega, e3, e4⟩
theorem RestI.new {o : Nat → Int} {d k : Nat} {rest : Int} {s : Nat} (h : RestI o d k rest s) (he : k = 0 ∨ o k ≠ o (k - 1)) : RestI o d (k + 1) rest 1 := by
  refine ⟨by omega, .inr (Nat.le_refl _), fun j hj => by rw [show j = 0 by omega]; rfl, ?_, ?_⟩
  · rcases he with e | e
    · exact .inl (by omega)
    · exact .inr (by rw [Nat.add_sub_cancel]; exact Ne.symm e)
  · rcases h.rs with ⟨e1, e2, e3⟩ | ⟨r, e1, e2, e3, e4⟩
    · refine .inl ⟨e1, by omega, fun a ha hc => ?_⟩
      by_cases hak : a + (d + 2) ≤ k
      · exact e3 a hak hc
      · rcases he with e | e
        · omega
        · refine e ?_
          have h5 := hc (k - a) (by omega)
          have h6 := hc (k - 1 - a) (by omega)
          rw [show a + (k - a) = k by omega] at h5
          rw [show a + (k - 1 - a) = k - 1 by omega] at h6
          rw [h5, h6]
    · exact .inr ⟨r, e1, by omega, e3, e4⟩

end Go.Proofs.YtfcfmpdpjmbcnaaGreat

/- When a monitor rests: two ways to find it. Nothing of the program. -/
namespace Go.Proofs.YtfcfmpdpjmbcnaaGreat
open Go.RowKit
set_option maxRecDepth 20000

/-- Whether one of the first outputs is too great. -/
def bigO (o : Nat → Int) : Nat → Bool
  | 0 => false
  | n + 1 => bigO o n || !inR (o n) (-100000) 100000
theorem bigO_false {o : Nat → Int} : ∀ {n : Nat}, bigO o n = false ↔ ∀ t, t < n → -100000 ≤ o t ∧ o t ≤ 100000
  | 0 => ⟨fun _ t h => absurd h (Nat.not_lt_zero t), fun _ => rfl⟩
  | n + 1 => by
    unfold bigO
    rw [Bool.or_eq_false_iff, bigO_false, Bool.not_eq_false', inR_true]
    constructor
    · rintro ⟨h1, h2⟩ t ht
      by_cases e : t = n
      · subst e; exact h2
      · exact h1 t (by omega)
    · exact fun h => ⟨fun t ht => h t (by omega), h n (by omega)⟩
theorem bigO_step {o : Nat → Int} {k n : Nat} (hk : k < n) (h : inR (o k) (-100000) 100000 = false) : bigO o n = true := by
  rw [← Bool.not_eq_false]
  intro h2
  have := inR_true.2 (bigO_false.1 h2 k hk)
  rw [h] at this; cases this
def cstB (o : Nat → Int) (a : Nat) : Nat → Bool
  | 0 => true
  | n + 1 => cstB o a n && decide (o (a + n) = o a)
theorem cstB_iff {o : Nat → Int} {a : Nat} : ∀ {n : Nat}, cstB o a n = true ↔ cst o a n
  | 0 => ⟨fun _ j h => absurd h (Nat.not_lt_zero j), fun _ => rfl⟩
  | n + 1 => by
    unfold cstB
    rw [Bool.and_eq_true, cstB_iff, decide_eq_true_eq]
    constructor
    · rintro ⟨h1, h2⟩ j hj
      by_cases e : j = n
      · subst e; exact h2
      · exact h1 j (by omega)
    · exact fun h => ⟨fun j hj => h j (by omega), h n (by omega)⟩
/-- The first number below n at which p holds. -/
def fstO (p : Nat → Bool) : Nat → Option Nat
  | 0 => none
  | n + 1 => match fstO p n with
    | some r => some r
    | none => bif p n then some n else none
theorem fstO_none {p : Nat → Bool} : ∀ {n : Nat}, fstO p n = none ↔ ∀ a, a < n → p a = false
  | 0 => ⟨fun _ a h => absurd h (Nat.not_lt_zero a), fun _ => rfl⟩
  | n + 1 => by
    unfold fstO
    cases h : fstO p n with
    | some r =>
      simp only [reduceCtorEq, false_iff]
      intro h2
      rw [fstO_none.2 fun a ha => h2 a (by omega)] at h
      cases h
    | none =>
      have h1 := fstO_none.1 h
      cases hp : p n
      · simp only [cond_false, true_iff]
        intro a ha
        by_cases e : a = n
        · subst e; exact hp
        · exact h1 a (by omega)
      · simp only [cond_true, reduceCtorEq, false_iff]
        intro h2
        rw [h2 n (by omega)] at hp
        cases hp
theorem fstO_some {p : Nat → Bool} : ∀ {n r : Nat}, fstO p n = some r ↔ r < n ∧ p r = true ∧ ∀ a, a < r → p a = false
  | 0, r => ⟨fun h => (by cases h), fun h => absurd h.1 (Nat.not_lt_zero r)⟩
  | n + 1, r => by
    unfold fstO
    cases h : fstO p n with
    | some s =>
      obtain ⟨h1, h2, h3⟩ := fstO_some.1 h
      constructor
      · intro e
        injection e with e
        subst e
        exact ⟨by omega, h2, h3⟩
      · rintro ⟨k1, k2, k3⟩
        rcases Nat.lt_trichotomy r s with e | e | e
        · rw [h3 r e] at k2; cases k2
        · subst e; rfl
        · rw [k3 s e] at h2; cases h2
    | none =>
      have h1 := fstO_none.1 h
      cases hp : p n
      · simp only [cond_false, reduceCtorEq, false_iff]
        rintro ⟨k1, k2, _⟩
        by_cases e : r = n
        · subst e; rw [hp] at k2; cases k2
        · rw [h1 r (by omega)] at k2; cases k2
      · simp only [cond_true, Option.some.injEq]
        constructor
        · rintro rfl
          exact ⟨by omega, hp, h1⟩
        · rintro ⟨k1, k2, _⟩
          by_cases e : n = r
          · exact e
          · rw [h1 r (by omega)] at k2; cases k2
def Mon.o (m : Mon) (D : Int) : Nat → Int := m.out fun _ => D
def Mon.rest (m : Mon) (D : Int) : Option Nat := fstO (fun a => cstB (m.o D) a (m.d + 2)) 501
/-- After how many ticks a monitor rests, or the error. -/
def Mon.restR (m : Mon) (D : Int) : Int × Int := bif bigO (m.o D) 501 then (0, 22) else match m.rest D with
  | some r => ((r : Int), 0)
  | none => (0, 21)
theorem Mon.rest_some {m : Mon} {D : Int} {r : Nat} (h : m.rest D = some r) : r ≤ 500 ∧ (∀ j, m.o D (r + j) = m.o D r) ∧ m.cr (m.o D r) = 0 ∧ (r = 0 ∨ m.o D (r - 1) ≠ m.o D r) := by
  obtain ⟨h1, h2, h3⟩ := fstO_some.1 h
  have hc := m.rests D (cstB_iff.1 h2)
  refine ⟨by omega, hc.2, hc.1, ?_⟩
  by_cases hr : r = 0
  · exact .inl hr
  · refine .inr fun e => ?_
    have h4 := h3 (r - 1) (by omega)
    have h5 : cst (m.o D) (r - 1) (m.d + 2) := fun j hj => by
      rcases j with _ | j
      · rfl
      · rw [show r - 1 + (j + 1) = r + j by omega, show m.o D (r + j) = m.o D r from hc.2 j, e]
    have h5 := cstB_iff.2 h5
    have h4 : cstB (m.o D) (r - 1) (m.d + 2) = false := h4
    rw [h5] at h4
    cases h4
theorem Mon.rest_of {m : Mon} {D : Int} {r : Nat} (hr : r ≤ 500) (h : cst (m.o D) r (m.d + 2)) (h0 : r = 0 ∨ m.o D (r - 1) ≠ m.o D r) : m.rest D = some r := by
  refine fstO_some.2 ⟨by omega, cstB_iff.2 h, fun a ha => ?_⟩
  rw [Bool.eq_false_iff]
  intro h2
  have hc := (m.rests D (cstB_iff.1 h2)).2
  rcases h0 with e | e
  · omega
  · refine e ?_
    have e1 := hc (r - 1 - a)
    have e2 := hc (r - a)
    rw [show a + (r - 1 - a) = r - 1 by omega] at e1
    rw [show a + (r - a) = r by omega] at e2
    exact e1.trans e2.symm
end Go.Proofs.YtfcfmpdpjmbcnaaGreat
