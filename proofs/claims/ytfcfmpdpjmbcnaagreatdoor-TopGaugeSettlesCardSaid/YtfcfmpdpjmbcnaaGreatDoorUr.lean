/- Merged: XUm XUn. -/
import Derived.Test.YtfcfmpdpjmbcnaaGreatDoorM9
import Derived.Test.YtfcfmpdpjmbcnaaGreatDoorPb
set_option linter.unusedVariables false
set_option linter.unusedSimpArgs false
/- Monitors: outputs, and when they rest. Nothing of the program. -/
namespace Go.Proofs.YtfcfmpdpjmbcnaaGreatDoor
open Go.RowKit
set_option maxRecDepth 20000

structure Mon where
  d : Nat
  num : Int
  den : Int
  band : Int
def Mon.cr (m : Mon) (y : Int) : Int := bif decide ((y.natAbs : Int) > m.band) then (m.num * y).tdiv m.den else 0
def Mon.st (m : Mon) (f : Nat → Int) : Nat → List Int × Int
  | 0 => ([], 0)
  | t + 1 => ((m.st f t).1 ++ [f t + (m.st f t).2], bif decide (t < m.d) then (m.st f t).2 else (m.st f t).2 - m.cr (nth ((m.st f t).1 ++ [f t + (m.st f t).2]) (t - m.d)))
def Mon.cor (m : Mon) (f : Nat → Int) (t : Nat) : Int := (m.st f t).2
def Mon.out (m : Mon) (f : Nat → Int) (t : Nat) : Int := f t + m.cor f t
theorem Mon.st_list (m : Mon) (f : Nat → Int) : ∀ t, (m.st f t).1 = lst (m.out f) t
  | 0 => rfl
  | t + 1 => by
    show (m.st f t).1 ++ [m.out f t] = _
    rw [m.st_list f t, lst_succ]
theorem Mon.cor_succ (m : Mon) (f : Nat → Int) (t : Nat) : m.cor f (t + 1) = bif decide (t < m.d) then m.cor f t else m.cor f t - m.cr (m.out f (t - m.d)) := by
  have h : m.cor f (t + 1) = bif decide (t < m.d) then m.cor f t else m.cor f t - m.cr (nth ((m.st f t).1 ++ [m.out f t]) (t - m.d)) := rfl
  rw [h, m.st_list f t, ← lst_succ, lst_nth _ (by omega)]
theorem Mon.cor_lt (m : Mon) (f : Nat → Int) {t : Nat} (h : t < m.d) : m.cor f (t + 1) = m.cor f t := by rw [cor_succ, decide_eq_true h]; rfl
theorem Mon.cor_ge (m : Mon) (f : Nat → Int) {t : Nat} (h : m.d ≤ t) : m.cor f (t + 1) = m.cor f t - m.cr (m.out f (t - m.d)) := by rw [cor_succ, decide_eq_false (by omega)]; rfl
def cst (o : Nat → Int) (a n : Nat) : Prop := ∀ j, j < n → o (a + j) = o a
theorem Mon.rests (m : Mon) (D : Int) {r : Nat} (h : cst (m.out fun _ => D) r (m.d + 2)) : m.cr (m.out (fun _ => D) r) = 0 ∧ ∀ j, m.out (fun _ => D) (r + j) = m.out (fun _ => D) r := by
  have hs : ∀ t, m.d ≤ t → m.out (fun _ => D) (t + 1) = m.out (fun _ => D) t - m.cr (m.out (fun _ => D) (t - m.d)) := fun t ht => by
    show D + m.cor _ (t + 1) = D + m.cor _ t - _
    rw [m.cor_ge _ ht]; omega
  have h0 : m.cr (m.out (fun _ => D) r) = 0 := by
    have h1 := hs (r + m.d) (by omega)
    rw [Nat.add_sub_cancel, show r + m.d + 1 = r + (m.d + 1) by omega, h (m.d + 1) (by omega), h m.d (by omega)] at h1
    omega
  refine ⟨h0, fun j => ?_⟩
  induction j using Nat.strongRecOn with
  | _ j ih =>
    by_cases hj : j < m.d + 2
    · exact h j hj
    · obtain ⟨i, rfl⟩ : ∃ i, j = i + 1 := ⟨j - 1, by omega⟩
      rw [show r + (i + 1) = r + i + 1 by omega, hs (r + i) (by omega), ih i (by omega), show r + i - m.d = r + (i - m.d) by omega, ih (i - m.d) (by omega), h0]
      omega
structure RestI (o : Nat → Int) (d k : Nat) (rest : Int) (s : Nat) : Prop where
  le : s ≤ k
  pos : k = 0 ∨ 1 ≤ s
  cs : cst o (k - s) s
  mx : s = k ∨ o (k - s - 1) ≠ o (k - s)
  rs : (rest = -1 ∧ s < d + 2 ∧ ∀ a, a + (d + 2) ≤ k → ¬ cst o a (d + 2)) ∨ ∃ r : Nat, rest = r ∧ r + (d + 2) ≤ k ∧ cst o r (d + 2) ∧ (r = 0 ∨ o (r - 1) ≠ o r)
theorem RestI.start (o : Nat → Int) (d : Nat) : RestI o d 0 (-1) 0 := ⟨Nat.le_refl _, .inl rfl, fun j hj => by omega, .inl rfl, .inl ⟨rfl, by omega, fun a ha => by omega⟩⟩
theorem RestI.same {o : Nat → Int} {d k : Nat} {rest : Int} {s : Nat} (h : RestI o d k rest s) (hs : 0 < s) (he : o k = o (k - 1)) : RestI o d (k + 1) (bif decide ((d : Int) + 2 ≤ (s : Int) + 1) && decide (rest < 0) then (k : Int) - (s + 1) + 1 else rest) (s + 1) := by
  have h1 := h.le
  have hk1 : o (k - 1) = o (k - s) := by
    have := h.cs (s - 1) (by omega)
    rwa [show k - s + (s - 1) = k - 1 by omega] at this
  have hcs : cst o (k - s) (s + 1) := fun j hj => by
    by_cases e : j = s
    · subst e; rw [show k - j + j = k by omega, he, hk1]
    · exact h.cs j (by omega)
  have hmx : s + 1 = k + 1 ∨ o (k + 1 - (s + 1) - 1) ≠ o (k + 1 - (s + 1)) := by
    rw [show k + 1 - (s + 1) = k - s by omega]
    rcases h.mx with e | e
    · exact .inl (by omega)
    · exact .inr e
  refine ⟨by omega, .inr (by omega), by rw [show k + 1 - (s + 1) = k - s by omega]; exact hcs, hmx, ?_⟩
  rcases h.rs with ⟨e1, e2, e3⟩ | ⟨r, e1, e2, e3, e4⟩
  · by_cases hd : d + 2 ≤ s + 1
    · rw [decide_eq_true (by omega), decide_eq_true (by omega)]
      refine .inr ⟨k - s, ?_, by omega, ?_, ?_⟩
      · show (k : Int) - (s + 1) + 1 = _
        omega
      · rw [show d + 2 = s + 1 by omega]; exact hcs
      · rcases h.mx with e | e
        · exact .inl (by omega)
        · exact .inr e
    · rw [decide_eq_false (by omega)]
      refine .inl ⟨e1, by omega, fun a ha hc => ?_⟩
      by_cases hak : a + (d + 2) ≤ k
      · exact e3 a hak hc
      · rcases h.mx with e | e
        · omega
        · refine e ?_
          have h5 := hc (k - s - 1 - a) (by omega)
          have h6 := hc (k - s - a) (by omega)
          rw [show a + (k - s - 1 - a) = k - s - 1 by omega] at h5
          rw [show a + (k - s - a) = k - s by omega] at h6
          rw [h5, h6]
  · rw [decide_eq_false (show ¬ rest < 0 by omega), Bool.and_false]
    exact .inr ⟨r, e1, by omega, e3, e4⟩
theorem RestI.new {o : Nat → Int} {d k : Nat} {rest : Int} {s : Nat} (h : RestI o d k rest s) (he : k = 0 ∨ o k ≠ o (k - 1)) : RestI o d (k + 1) rest 1 := by
  refine ⟨by omega, .inr (Nat.le_refl _), fun j hj => by rw [show j = 0 by omega]; rfl, ?_, ?_⟩
  · rcases he with e | e
    · exact .inl (by omega)
    · exact .inr (by rw [Nat.add_sub_cancel]; exact Ne.symm e)
  · rcases h.rs with ⟨e1, e2, e3⟩ | ⟨r, e1, e2, e3, e4⟩
    · refine .inl ⟨e1, by omega, fun a ha hc => ?_⟩
      by_cases hak : a + (d + 2) ≤ k
      · exact e3 a hak hc
      · rcases he with e | e
        · omega
        · refine e ?_
          have h5 := hc (k - a) (by omega)
          have h6 := hc (k - 1 - a) (by omega)
          rw [show a + (k - a) = k by omega] at h5
          rw [show a + (k - 1 - a) = k - 1 by omega] at h6
          rw [h5, h6]
    · exact .inr ⟨r, e1, by omega, e3, e4⟩

end Go.Proofs.YtfcfmpdpjmbcnaaGreatDoor

/- When a monitor rests: two ways to find it. Nothing of the program. -/
namespace Go.Proofs.YtfcfmpdpjmbcnaaGreatDoor
open Go.RowKit
set_option maxRecDepth 20000

def bigO (o : Nat → Int) : Nat → Bool
  | 0 => false
  | n + 1 => bigO o n || !inR (o n) (-100000) 100000
theorem bigO_false {o : Nat → Int} : ∀ {n : Nat}, bigO o n = false ↔ ∀ t, t < n → -100000 ≤ o t ∧ o t ≤ 100000
  | 0 => ⟨fun _ t h => absurd h (Nat.not_lt_zero t), fun _ => rfl⟩
  | n + 1 => by
    unfold bigO
    rw [Bool.or_eq_false_iff, bigO_false, Bool.not_eq_false', inR_true]
    constructor
    · rintro ⟨h1, h2⟩ t ht
      by_cases e : t = n
      · subst e; exact h2
      · exact h1 t (by omega)
    · exact fun h => ⟨fun t ht => h t (by omega), h n (by omega)⟩
theorem bigO_step {o : Nat → Int} {k n : Nat} (hk : k < n) (h : inR (o k) (-100000) 100000 = false) : bigO o n = true := by
  rw [← Bool.not_eq_false]
  intro h2
  have := inR_true.2 (bigO_false.1 h2 k hk)
  rw [h] at this; cases this
def cstB (o : Nat → Int) (a : Nat) : Nat → Bool
  | 0 => true
  | n + 1 => cstB o a n && decide (o (a + n) = o a)
theorem cstB_iff {o : Nat → Int} {a : Nat} : ∀ {n : Nat}, cstB o a n = true ↔ cst o a n
  | 0 => ⟨fun _ j h => absurd h (Nat.not_lt_zero j), fun _ => rfl⟩
  | n + 1 => by
    unfold cstB
    rw [Bool.and_eq_true, cstB_iff, decide_eq_true_eq]
    constructor
    · rintro ⟨h1, h2⟩ j hj
      by_cases e : j = n
      · subst e; exact h2
      · exact h1 j (by omega)
    · exact fun h => ⟨fun j hj => h j (by omega), h n (by omega)⟩
def fstO (p : Nat → Bool) : Nat → Option Nat
  | 0 => none
  | n + 1 => match fstO p n with
    | some r => some r
    | none => bif p n then some n else none
theorem fstO_none {p : Nat → Bool} : ∀ {n : Nat}, fstO p n = none ↔ ∀ a, a < n → p a = false
  | 0 => ⟨fun _ a h => absurd h (Nat.not_lt_zero a), fun _ => rfl⟩
  | n + 1 => by
    unfold fstO
    cases h : fstO p n with
    | some r =>
      simp only [reduceCtorEq, false_iff]
      intro h2
      rw [fstO_none.2 fun a ha => h2 a (by omega)] at h
      cases h
    | none =>
      have h1 := fstO_none.1 h
      cases hp : p n
      · simp only [cond_false, true_iff]
        intro a ha
        by_cases e : a = n
        · subst e; exact hp
        · exact h1 a (by omega)
      · simp only [cond_true, reduceCtorEq, false_iff]
        intro h2
        rw [h2 n (by omega)] at hp
        cases hp
theorem fstO_some {p : Nat → Bool} : ∀ {n r : Nat}, fstO p n = some r ↔ r < n ∧ p r = true ∧ ∀ a, a < r → p a = false
  | 0, r => ⟨fun h => (by cases h), fun h => absurd h.1 (Nat.not_lt_zero r)⟩
  | n + 1, r => by
    unfold fstO
    cases h : fstO p n with
    | some s =>
      obtain ⟨h1, h2, h3⟩ := fstO_some.1 h
      constructor
      · intro e
        injection e with e
        subst e
        exact ⟨by omega, h2, h3⟩
      · rintro ⟨k1, k2, k3⟩
        rcases Nat.lt_trichotomy r s with e | e | e
        · rw [h3 r e] at k2; cases k2
        · subst e; rfl
        · rw [k3 s e] at h2; cases h2
    | none =>
      have h1 := fstO_none.1 h
      cases hp : p n
      · simp only [cond_false, reduceCtorEq, false_iff]
        rintro ⟨k1, k2, _⟩
        by_cases e : r = n
        · subst e; rw [hp] at k2; cases k2
        · rw [h1 r (by omega)] at k2; cases k2
      · simp only [cond_true, Option.some.injEq]
        constructor
        · rintro rfl
          exact ⟨by omega, hp, h1⟩
        · rintro ⟨k1, k2, _⟩
          by_cases e : n = r
          · exact e
          · rw [h1 r (by omega)] at k2; cases k2
def Mon.o (m : Mon) (D : Int) : Nat → Int := m.out fun _ => D
def Mon.rest (m : Mon) (D : Int) : Option Nat := fstO (fun a => cstB (m.o D) a (m.d + 2)) 501
def Mon.restR (m : Mon) (D : Int) : Int × Int := bif bigO (m.o D) 501 then (0, 22) else match m.rest D with
  | some r => ((r : Int), 0)
  | none => (0, 21)
theorem Mon.rest_some {m : Mon} {D : Int} {r : Nat} (h : m.rest D = some r) : r ≤ 500 ∧ (∀ j, m.o D (r + j) = m.o D r) ∧ m.cr (m.o D r) = 0 ∧ (r = 0 ∨ m.o D (r - 1) ≠ m.o D r) := by
  obtain ⟨h1, h2, h3⟩ := fstO_some.1 h
  have hc := m.rests D (cstB_iff.1 h2)
  refine ⟨by omega, hc.2, hc.1, ?_⟩
  by_cases hr : r = 0
  · exact .inl hr
  · refine .inr fun e => ?_
    have h4 := h3 (r - 1) (by omega)
    have h5 : cst (m.o D) (r - 1) (m.d + 2) := fun j hj => by
      rcases j with _ | j
      · rfl
      · rw [show r - 1 + (j + 1) = r + j by omega, show m.o D (r + j) = m.o D r from hc.2 j, e]
    have h5 := cstB_iff.2 h5
    have h4 : cstB (m.o D) (r - 1) (m.d + 2) = false := h4
    rw [h5] at h4
    cases h4
theorem Mon.rest_of {m : Mon} {D : Int} {r : Nat} (hr : r ≤ 500) (h : cst (m.o D) r (m.d + 2)) (h0 : r = 0 ∨ m.o D (r - 1) ≠ m.o D r) : m.rest D = some r := by
  refine fstO_some.2 ⟨by omega, cstB_iff.2 h, fun a ha => ?_⟩
  rw [Bool.eq_false_iff]
  intro h2
  have hc := (m.rests D (cstB_iff.1 h2)).2
  rcases h0 with e | e
  · omega
  · refine e ?_
    have e1 := hc (r - 1 - a)
    have e2 := hc (r - a)
    rw [show a + (r - 1 - a) = r - 1 by omega] at e1
    rw [show a + (r - a) = r by omega] at e2
    exact e1.trans e2.symm
end Go.Proofs.YtfcfmpdpjmbcnaaGreatDoor
/- Monitors: outputs, tick by tick; when one rests. -/
set_option linter.unusedVariables false
set_option linter.unusedSimpArgs false
namespace Go.Proofs.YtfcfmpdpjmbcnaaGreatDoor
open Go.RowKit
set_option maxRecDepth 20000
set_option maxHeartbeats 8000000

abbrev monC (m : Mon) : List DV := [I m.d, I m.num, I m.den, I m.band]
abbrev monV (m : Mon) : DV := .agg (monC m)
structure MonOk (m : Mon) : Prop where
  d : m.d ≤ 10
  n : 0 ≤ m.num ∧ m.num ≤ 100
  e : 1 ≤ m.den ∧ m.den ≤ 100
  b : 0 ≤ m.band ∧ m.band ≤ 10000
def mnE (d n e b : Int) : Int := unl (inR d 0 10 && inR n 0 100 && inR e 1 100 && inR b 0 10000) 2
theorem checkMonitor_A (d n e b : Int) : AC Tryz.prog 81 [.agg [I d, I n, I e, I b]] (I (mnE d n e b)) := by
  have w1 := within_A d 0 10
  have w2 := within_A n 0 100
  have w3 := within_A e 1 100
  have w4 := within_A b 0 10000
  unfold mnE
  generalize inR d 0 10 = b1 at *
  generalize inR n 0 100 = b2 at *
  generalize inR e 1 100 = b3 at *
  generalize inR b 0 10000 = b4 at *
  refine ac_body Tryz.func81 rfl (by kernel_rfl) fun w0 ok => ?_; show AWp _ (ctx0 w0 ok _) _ (ARet _ _ _) (entry _)
  cases b1
  · (repeat' (first | (with_reducible first | intro hg | refine mv (by constructor) ?_) | ((with_reducible first | refine zR ?_ ?_ | refine zW mixed ?_ ?_); exact kr) | ((with_reducible apply zK); exact rfl; exact tf) | ((with_reducible apply zCD); exact rfl) | ((with_reducible apply zCN); exact rfl) | ((with_reducible apply zC); exact rfl) | ((with_reducible refine zX ?_ ?_); exact rfl) | ((with_reducible refine zE (And.intro ?_ ?_)); exact kr) | (with_reducible refine zE ?_) | ((with_reducible apply zP); (first | exact dp | exact oc rfl (w1) | exact oc rfl (unless_A _ _))) | ((with_reducible apply zN); exact dn) | ((with_reducible apply zA); exact da) | ((with_reducible apply zS); exact ds) | ((with_reducible apply zY); exact rfl; exact rfl; exact tf) | ((with_reducible apply zG); exact rfl; exact rfl; exact tf) | ((with_reducible apply zU); exact rfl; exact rfl) | ((with_reducible apply zD); exact rfl; exact rfl) | ((with_reducible apply zB); exact rfl; exact rfl)))
    ((with_reducible first | apply q_retR | apply q_retN); exact rl)
    rfl
  cases b2
  · (repeat' (first | (with_reducible first | intro hg | refine mv (by constructor) ?_) | ((with_reducible first | refine zR ?_ ?_ | refine zW mixed ?_ ?_); exact kr) | ((with_reducible apply zK); exact rfl; exact tf) | ((with_reducible apply zCD); exact rfl) | ((with_reducible apply zCN); exact rfl) | ((with_reducible apply zC); exact rfl) | ((with_reducible refine zX ?_ ?_); exact rfl) | ((with_reducible refine zE (And.intro ?_ ?_)); exact kr) | (with_reducible refine zE ?_) | ((with_reducible apply zP); (first | exact dp | exact oc rfl (w1) | exact oc rfl (w2) | exact oc rfl (unless_A _ _))) | ((with_reducible apply zN); exact dn) | ((with_reducible apply zA); exact da) | ((with_reducible apply zS); exact ds) | ((with_reducible apply zY); exact rfl; exact rfl; exact tf) | ((with_reducible apply zG); exact rfl; exact rfl; exact tf) | ((with_reducible apply zU); exact rfl; exact rfl) | ((with_reducible apply zD); exact rfl; exact rfl) | ((with_reducible apply zB); exact rfl; exact rfl)))
    ((with_reducible first | apply q_retR | apply q_retN); exact rl)
    rfl
  cases b3
  · (repeat' (first | (with_reducible first | intro hg | refine mv (by constructor) ?_) | ((with_reducible first | refine zR ?_ ?_ | refine zW mixed ?_ ?_); exact kr) | ((with_reducible apply zK); exact rfl; exact tf) | ((with_reducible apply zCD); exact rfl) | ((with_reducible apply zCN); exact rfl) | ((with_reducible apply zC); exact rfl) | ((with_reducible refine zX ?_ ?_); exact rfl) | ((with_reducible refine zE (And.intro ?_ ?_)); exact kr) | (with_reducible refine zE ?_) | ((with_reducible apply zP); (first | exact dp | exact oc rfl (w1) | exact oc rfl (w2) | exact oc rfl (w3) | exact oc rfl (unless_A _ _))) | ((with_reducible apply zN); exact dn) | ((with_reducible apply zA); exact da) | ((with_reducible apply zS); exact ds) | ((with_reducible apply zY); exact rfl; exact rfl; exact tf) | ((with_reducible apply zG); exact rfl; exact rfl; exact tf) | ((with_reducible apply zU); exact rfl; exact rfl) | ((with_reducible apply zD); exact rfl; exact rfl) | ((with_reducible apply zB); exact rfl; exact rfl)))
    ((with_reducible first | apply q_retR | apply q_retN); exact rl)
    rfl
  · (repeat' (first | (with_reducible first | intro hg | refine mv (by constructor) ?_) | ((with_reducible first | refine zR ?_ ?_ | refine zW mixed ?_ ?_); exact kr) | ((with_reducible apply zK); exact rfl; exact tf) | ((with_reducible apply zCD); exact rfl) | ((with_reducible apply zCN); exact rfl) | ((with_reducible apply zC); exact rfl) | ((with_reducible refine zX ?_ ?_); exact rfl) | ((with_reducible refine zE (And.intro ?_ ?_)); exact kr) | (with_reducible refine zE ?_) | ((with_reducible apply zP); (first | exact dp | exact oc rfl (w1) | exact oc rfl (w2) | exact oc rfl (w3) | exact oc rfl (w4) | exact oc rfl (unless_A _ _))) | ((with_reducible apply zN); exact dn) | ((with_reducible apply zA); exact da) | ((with_reducible apply zS); exact ds) | ((with_reducible apply zY); exact rfl; exact rfl; exact tf) | ((with_reducible apply zG); exact rfl; exact rfl; exact tf) | ((with_reducible apply zU); exact rfl; exact rfl) | ((with_reducible apply zD); exact rfl; exact rfl) | ((with_reducible apply zB); exact rfl; exact rfl)))
    ((with_reducible first | apply q_retR | apply q_retN); exact rl)
    rfl
theorem isSwing_A (n : Int) : AC Tryz.prog 82 [I n] (B (inR n (-10000) 10000)) := by
  refine ac_body Tryz.func82 rfl (by kernel_rfl) fun w0 ok => ?_; show AWp _ (ctx0 w0 ok _) _ (ARet _ _ _) (entry _)
  (repeat' (first | (with_reducible first | intro hg | refine mv (by constructor) ?_) | ((with_reducible first | refine zR ?_ ?_ | refine zW mixed ?_ ?_); exact kr) | ((with_reducible apply zK); exact rfl; exact tf) | ((with_reducible apply zCD); exact rfl) | ((with_reducible apply zCN); exact rfl) | ((with_reducible apply zC); exact rfl) | ((with_reducible refine zX ?_ ?_); exact rfl) | ((with_reducible refine zE (And.intro ?_ ?_)); exact kr) | (with_reducible refine zE ?_) | ((with_reducible apply zP); (first | exact dp | exact oc rfl (isSized_A _ _ ⟨by decide, by decide⟩))) | ((with_reducible apply zN); exact dn) | ((with_reducible apply zA); exact da) | ((with_reducible apply zS); exact ds) | ((with_reducible apply zY); exact rfl; exact rfl; exact tf) | ((with_reducible apply zG); exact rfl; exact rfl; exact tf) | ((with_reducible apply zU); exact rfl; exact rfl) | ((with_reducible apply zD); exact rfl; exact rfl) | ((with_reducible apply zB); exact rfl; exact rfl)))
  ((with_reducible first | apply q_retR | apply q_retN); exact rl)
  rfl
theorem outputs_A (m : Mon) {K : Nat} {fv : DV} {caps : List DV} (hv : FV K fv caps) : AC Tryz.prog 83 [monV m, fv] (.fn (.func 127) [] [.ref [fv], .ref (monC m)]) := by
  refine ac_body Tryz.func83 rfl (by kernel_rfl) fun w0 ok => ?_; show AWp _ (ctx0 w0 ok _) _ (ARet _ _ _) (entry _)
  cases hv
  all_goals
   (repeat' ((fail_if_success (with_reducible show AWp _ _ (.region 1 _ _) _ _)); (first | (with_reducible first | intro hg | refine mv (by constructor) ?_) | ((with_reducible first | refine zR ?_ ?_ | refine zW mixed ?_ ?_); exact kr) | ((with_reducible apply zK); exact rfl; exact tf) | ((with_reducible apply zCD); exact rfl) | ((with_reducible apply zCN); exact rfl) | ((with_reducible apply zC); exact rfl) | ((with_reducible refine zX ?_ ?_); exact rfl) | ((with_reducible refine zE (And.intro ?_ ?_)); exact kr) | (with_reducible refine zE ?_) | ((with_reducible apply zP); exact dp) | ((with_reducible apply zN); exact dn) | ((with_reducible apply zA); exact da) | ((with_reducible apply zS); exact ds) | ((with_reducible apply zY); exact rfl; exact rfl; exact tf) | ((with_reducible apply zG); exact rfl; exact rfl; exact tf) | ((with_reducible apply zU); exact rfl; exact rfl) | ((with_reducible apply zD); exact rfl; exact rfl) | ((with_reducible apply zB); exact rfl; exact rfl))))
   refine awp_freeze 2 rfl ?_
   refine awp_freeze 3 rfl ?_
   exact zF
abbrev outY (m : Mon) (f : Nat → Int) (N : Nat) : List YA := (List.range N).map fun t : Nat => .gv [I t, I (m.out f t)]
theorem outY_get {m : Mon} {f : Nat → Int} {N k : Nat} (h : k < N) : (outY m f N)[k]? = some (.gv [I k, I (m.out f k)]) := by
  simp [outY, h]
theorem cr_bnd {m : Mon} (h : MonOk m) {y : Int} (hy : -1000000000 ≤ y ∧ y ≤ 1000000000) : (m.num * y).natAbs ≤ 100000000000 ∧ (m.cr y).natAbs ≤ 100000000000 := by
  have h1 := mul_rng (x := m.num) (e := y) 100 1000000000 (by have := h.n; omega) (by omega)
  have h2 := Int.natAbs_tdiv_le_natAbs (m.num * y) m.den
  unfold Mon.cr
  cases decide ((y.natAbs : Int) > m.band)
  · exact ⟨by omega, Nat.zero_le _⟩
  · exact ⟨by omega, by show ((m.num * y).tdiv m.den).natAbs ≤ _; omega⟩
theorem outputs1_A (m : Mon) (hm : MonOk m) (f : Nat → Int) (N : Nat) (hN : N ≤ 1000000) (hf : ∀ t, t < N → -10000 ≤ f t ∧ f t ≤ 10000) (ho : ∀ t, t < N → -1000000000 ≤ m.out f t ∧ m.out f t ≤ 1000000000)
    (K : Nat) (he : Enters Tryz.prog K) {fv : DV} {caps : List DV} (hv : FV K fv caps) (hp : ∀ t : Nat, t < N → AC Tryz.prog K ([I t] ++ caps) (I (f t))) :
    AY Tryz.prog 127 [] [.ref [fv], .ref (monC m)] (outY m f N) false := by
  refine ay_body Tryz.func127 rfl rfl (by kernel_rfl) fun w0 J sJ fz0 l hI => ?_
  show AWp _ (itF w0 J sJ fz0 _) _ (YRet _ _) (entryY _ _ _)
  have hyl : (outY m f N).length = N := by simp [outY]
  obtain ⟨hn1, hn2⟩ := hm.n
  obtain ⟨he1, he2⟩ := hm.e
  have hd := hm.d
  (repeat' (first | (with_reducible first | intro hg | refine mv (by constructor) ?_) | ((with_reducible first | refine zR ?_ ?_ | refine zW mixed ?_ ?_); exact kr) | ((with_reducible apply zK); exact rfl; exact tf) | ((with_reducible apply zCD); exact rfl) | ((with_reducible apply zCN); exact rfl) | ((with_reducible apply zC); exact rfl) | ((with_reducible refine zX ?_ ?_); exact rfl) | ((with_reducible refine zE (And.intro ?_ ?_)); exact kr) | (with_reducible refine zE ?_) | ((with_reducible apply zP); exact dp) | ((with_reducible apply zN); exact dn) | ((with_reducible apply zA); exact da) | ((with_reducible apply zS); exact ds) | ((with_reducible apply zY); exact rfl; exact rfl; exact tf) | ((with_reducible apply zG); exact rfl; exact rfl; exact tf) | ((with_reducible apply zU); exact rfl; exact rfl) | ((with_reducible apply zD); exact rfl; exact rfl) | ((with_reducible apply zB); exact rfl; exact rfl)))
  refine awp_loopL (α := Nat) (fun k => [(0, .d (.val (.func (.yield l) #[] #[]))), (1, .d (.ref [fv])), (2, .d (.ref (monC m))), (4, ownS 19 k), (5, .d (I (m.cor f k))), (6, .d (I k)), (VG, cntV k)]) (fun k => ownM 19 3 (ivs (lst (m.out f) k)) k)
    (fun k => k ≤ N) (fun k => N - k) 0 (Nat.zero_le _) (And.intro rfl (And.intro rfl (And.intro rfl (And.intro rfl (And.intro rfl (And.intro rfl (And.intro rfl trivial))))))) trivial fun k hk => ?_
  by_cases hlt : k < N
  rotate_left
  · obtain rfl : k = N := by omega
    exact awp_over hI (by rw [hyl]; rfl)
  have hpk := hp k hlt
  have ho1 := ho k hlt
  have hf1 := hf k hlt
  have hdef : m.out f k = f k + m.cor f k := rfl
  have hget := outY_get (m := m) (f := f) hlt
  have hge := m.cor_ge f (t := k)
  have hlt' := m.cor_lt f (t := k)
  have hoj := fun (hj : m.d ≤ k) => ho (k - m.d) (by omega)
  have hsz := fun (hj : m.d ≤ k) => size_A (m.out f (k - m.d)) ⟨by have := hoj hj; omega, by have := hoj hj; omega⟩
  have hnl : ∀ j, nth (lst (m.out f) (j + 1)) (j - m.d) = m.out f (j - m.d) := fun j => lst_nth _ (by omega)
  clear hp ho hf
  rcases k with _ | k
  · (repeat' ((fail_if_success (with_reducible show AWp _ _ (.region 6 _ _) _ _)); (first | (with_reducible first | intro hg | refine mv (by constructor) ?_) | ((with_reducible first | refine zR ?_ ?_ | refine zW mixed ?_ ?_); exact kr) | ((with_reducible apply zK); exact rfl; exact tf) | ((with_reducible apply zCD); exact rfl) | ((with_reducible apply zCN); exact rfl) | ((with_reducible apply zC); exact rfl) | ((with_reducible refine zX ?_ ?_); exact rfl) | ((with_reducible refine zE (And.intro ?_ ?_)); exact kr) | (with_reducible refine zE ?_) | ((with_reducible apply zP); (first | exact o_callF he (by exact hv.v rfl) rfl hpk (.inl rfl) | exact dp)) | ((with_reducible apply zN); exact dn) | ((with_reducible apply zA); exact da) | ((with_reducible apply zS); exact ds) | ((with_reducible apply zY); exact rfl; exact rfl; exact tf) | ((with_reducible apply zG); exact rfl; exact rfl; exact tf) | ((with_reducible apply zU); exact rfl; exact rfl) | ((with_reducible apply zD); exact rfl; exact rfl) | ((with_reducible apply zB); exact rfl; exact rfl))))
    refine awp_cut [(0, .d (.val (.func (.yield l) #[] #[]))), (1, .d (.ref [fv])), (2, .d (.ref (monC m))), (4, .lsl 19 0 (0 + 1) 1), (5, .d (I (m.cor f (0)))), (6, .d (I (0 : Nat))), (7, .d (I (m.out f (0)))), (VG, cntV (0))] [(19, ⟨3, ivs (lst (m.out f) (0 + 1))⟩)] (And.intro rfl (And.intro rfl (And.intro rfl (And.intro rfl (And.intro rfl (And.intro rfl (And.intro rfl (And.intro rfl trivial)))))))) (And.intro rfl trivial) ?_
    refine awp_yield hI (pre := [_, _, _]) (post := [_]) (by rfl) (by kernel_rfl) (0) _ hget ?_
    (repeat' (first | (with_reducible first | intro hg | refine mv (by constructor) ?_) | ((with_reducible first | refine zR ?_ ?_ | refine zW mixed ?_ ?_); exact kr) | ((with_reducible apply zK); exact rfl; exact tf) | ((with_reducible apply zCD); exact rfl) | ((with_reducible apply zCN); exact rfl) | ((with_reducible apply zC); exact rfl) | ((with_reducible refine zX ?_ ?_); exact rfl) | ((with_reducible refine zE (And.intro ?_ ?_)); exact kr) | (with_reducible refine zE ?_) | ((with_reducible apply zP); exact dp) | ((with_reducible apply zN); exact dn) | ((with_reducible apply zA); exact da) | ((with_reducible apply zS); exact ds) | ((with_reducible apply zY); exact rfl; exact rfl; exact tf) | ((with_reducible apply zG); exact rfl; exact rfl; exact tf) | ((with_reducible apply zU); exact rfl; exact rfl) | ((with_reducible apply zD); exact rfl; exact rfl) | ((with_reducible apply zB); exact rfl; exact rfl)))
    refine ⟨rfl, .gv rfl rfl, rfl, ?_, ?_⟩
    rotate_left
    · (repeat' (first | (with_reducible first | intro hg | refine mv (by constructor) ?_) | ((with_reducible first | refine zR ?_ ?_ | refine zW mixed ?_ ?_); exact kr) | ((with_reducible apply zK); exact rfl; exact tf) | ((with_reducible apply zCD); exact rfl) | ((with_reducible apply zCN); exact rfl) | ((with_reducible apply zC); exact rfl) | ((with_reducible refine zX ?_ ?_); exact rfl) | ((with_reducible refine zE (And.intro ?_ ?_)); exact kr) | (with_reducible refine zE ?_) | ((with_reducible apply zP); exact dp) | ((with_reducible apply zN); exact dn) | ((with_reducible apply zA); exact da) | ((with_reducible apply zS); exact ds) | ((with_reducible apply zY); exact rfl; exact rfl; exact tf) | ((with_reducible apply zG); exact rfl; exact rfl; exact tf) | ((with_reducible apply zU); exact rfl; exact rfl) | ((with_reducible apply zD); exact rfl; exact rfl) | ((with_reducible apply zB); exact rfl; exact rfl)))
      exact .inr ⟨_, rfl⟩
    by_cases hj : 0 < m.d
    · have hlt' := hlt' hj
      (repeat' (first | (with_reducible first | intro hg | refine mv (by constructor) ?_) | ((with_reducible first | refine zR ?_ ?_ | refine zW mixed ?_ ?_); exact kr) | ((with_reducible apply zK); exact rfl; exact tf) | ((with_reducible apply zCD); exact rfl) | ((with_reducible apply zCN); exact rfl) | ((with_reducible apply zC); exact rfl) | ((with_reducible refine zX ?_ ?_); exact rfl) | ((with_reducible refine zE (And.intro ?_ ?_)); exact kr) | (with_reducible refine zE ?_) | ((with_reducible apply zP); exact dp) | ((with_reducible apply zN); exact dn) | ((with_reducible apply zA); exact da) | ((with_reducible apply zS); exact ds) | ((with_reducible apply zY); exact rfl; exact rfl; exact tf) | ((with_reducible apply zG); exact rfl; exact rfl; exact tf) | ((with_reducible apply zU); exact rfl; exact rfl) | ((with_reducible apply zD); exact rfl; exact rfl) | ((with_reducible apply zB); exact rfl; exact rfl)))
      exact ⟨0 + 1, hlt, by omega, (And.intro rfl (And.intro rfl (And.intro rfl (And.intro rfl (And.intro (congrArg (fun n => AV.d (I n)) hlt'.symm) (And.intro (rfl) (And.intro (rfl) trivial))))))), (And.intro rfl trivial)⟩
    · have hj : m.d ≤ 0 := by omega
      have hoj := hoj hj
      have hsz := hsz hj
      have hge := hge hj
      have hnl := hnl (0)
      have hll := lst_length (m.out f) (0 + 1)
      obtain ⟨c1, c2⟩ := cr_bnd hm hoj
      unfold Mon.cr at hge
      rw [← hnl] at hoj hsz hge c1
      clear c2 hlt' hnl hget hpk hI
      by_cases hb : ((nth (lst (m.out f) (0 + 1)) (0 - m.d)).natAbs : Int) > m.band
      · rw [decide_eq_true hb] at hge
        have hq := Int.natAbs_tdiv_le_natAbs (m.num * nth (lst (m.out f) (0 + 1)) (0 - m.d)) m.den
        (repeat' (first | (with_reducible first | intro hg | refine mv (by constructor) ?_) | ((with_reducible first | refine zR ?_ ?_ | refine zW mixed ?_ ?_); exact kr) | ((with_reducible apply zK); exact rfl; exact tf) | ((with_reducible apply zCD); exact rfl) | ((with_reducible apply zCN); exact rfl) | ((with_reducible apply zC); exact rfl) | ((with_reducible refine zX ?_ ?_); exact rfl) | ((with_reducible refine zE (And.intro ?_ ?_)); exact kr) | (with_reducible refine zE ?_) | ((with_reducible apply zP); (first | exact o_indexL (o := 0 - m.d) rfl rfl (by omega) (by omega) (by omega) | exact dp | exact oc rfl (hsz))) | ((with_reducible apply zN); exact dn) | ((with_reducible apply zA); exact da) | ((with_reducible apply zS); exact ds) | ((with_reducible apply zY); exact rfl; exact rfl; exact tf) | ((with_reducible apply zG); exact rfl; exact rfl; exact tf) | ((with_reducible apply zU); exact rfl; exact rfl) | ((with_reducible apply zD); exact rfl; exact rfl) | ((with_reducible apply zB); exact rfl; exact rfl)))
        exact ⟨0 + 1, hlt, by omega, (And.intro rfl (And.intro rfl (And.intro rfl (And.intro rfl (And.intro (congrArg (fun n => AV.d (I n)) hge.symm) (And.intro (rfl) (And.intro (rfl) trivial))))))), (And.intro rfl trivial)⟩
      · rw [decide_eq_false hb] at hge
        (repeat' (first | (with_reducible first | intro hg | refine mv (by constructor) ?_) | ((with_reducible first | refine zR ?_ ?_ | refine zW mixed ?_ ?_); exact kr) | ((with_reducible apply zK); exact rfl; exact tf) | ((with_reducible apply zCD); exact rfl) | ((with_reducible apply zCN); exact rfl) | ((with_reducible apply zC); exact rfl) | ((with_reducible refine zX ?_ ?_); exact rfl) | ((with_reducible refine zE (And.intro ?_ ?_)); exact kr) | (with_reducible refine zE ?_) | ((with_reducible apply zP); (first | exact o_indexL (o := 0 - m.d) rfl rfl (by omega) (by omega) (by omega) | exact dp | exact oc rfl (hsz))) | ((with_reducible apply zN); exact dn) | ((with_reducible apply zA); exact da) | ((with_reducible apply zS); exact ds) | ((with_reducible apply zY); exact rfl; exact rfl; exact tf) | ((with_reducible apply zG); exact rfl; exact rfl; exact tf) | ((with_reducible apply zU); exact rfl; exact rfl) | ((with_reducible apply zD); exact rfl; exact rfl) | ((with_reducible apply zB); exact rfl; exact rfl)))
        exact ⟨0 + 1, hlt, by omega, (And.intro rfl (And.intro rfl (And.intro rfl (And.intro rfl (And.intro (congrArg (fun n => AV.d (I n)) (show m.cor f (0) = m.cor f (0 + 1) by rw [hge]; exact (Int.sub_zero _).symm)) (And.intro (rfl) (And.intro (rfl) trivial))))))), (And.intro rfl trivial)⟩
  · (repeat' ((fail_if_success (with_reducible show AWp _ _ (.region 6 _ _) _ _)); (first | (with_reducible first | intro hg | refine mv (by constructor) ?_) | ((with_reducible first | refine zR ?_ ?_ | refine zW mixed ?_ ?_); exact kr) | ((with_reducible apply zK); exact rfl; exact tf) | ((with_reducible apply zCD); exact rfl) | ((with_reducible apply zCN); exact rfl) | ((with_reducible apply zC); exact rfl) | ((with_reducible refine zX ?_ ?_); exact rfl) | ((with_reducible refine zE (And.intro ?_ ?_)); exact kr) | (with_reducible refine zE ?_) | ((with_reducible apply zP); (first | exact o_callF he (by exact hv.v rfl) rfl hpk (.inl rfl) | exact dp)) | ((with_reducible apply zN); exact dn) | ((with_reducible apply zA); exact da) | ((with_reducible apply zS); exact ds) | ((with_reducible apply zY); exact rfl; exact rfl; exact tf) | ((with_reducible apply zG); exact rfl; exact rfl; exact tf) | ((with_reducible apply zU); exact rfl; exact rfl) | ((with_reducible apply zD); exact rfl; exact rfl) | ((with_reducible apply zB); exact rfl; exact rfl))))
    refine awp_cut [(0, .d (.val (.func (.yield l) #[] #[]))), (1, .d (.ref [fv])), (2, .d (.ref (monC m))), (4, .lsl 19 0 (k + 1 + 1) 1), (5, .d (I (m.cor f (k + 1)))), (6, .d (I (k + 1 : Nat))), (7, .d (I (m.out f (k + 1)))), (VG, cntV (k + 1))] [(19, ⟨3, ivs (lst (m.out f) (k + 1 + 1))⟩)] (And.intro rfl (And.intro rfl (And.intro rfl (And.intro rfl (And.intro rfl (And.intro rfl (And.intro rfl (And.intro rfl trivial)))))))) (And.intro (blk_snoc _ _ _ rfl) trivial) ?_
    refine awp_yield hI (pre := [_, _, _]) (post := [_]) (by rfl) (by kernel_rfl) (k + 1) _ hget ?_
    (repeat' (first | (with_reducible first | intro hg | refine mv (by constructor) ?_) | ((with_reducible first | refine zR ?_ ?_ | refine zW mixed ?_ ?_); exact kr) | ((with_reducible apply zK); exact rfl; exact tf) | ((with_reducible apply zCD); exact rfl) | ((with_reducible apply zCN); exact rfl) | ((with_reducible apply zC); exact rfl) | ((with_reducible refine zX ?_ ?_); exact rfl) | ((with_reducible refine zE (And.intro ?_ ?_)); exact kr) | (with_reducible refine zE ?_) | ((with_reducible apply zP); exact dp) | ((with_reducible apply zN); exact dn) | ((with_reducible apply zA); exact da) | ((with_reducible apply zS); exact ds) | ((with_reducible apply zY); exact rfl; exact rfl; exact tf) | ((with_reducible apply zG); exact rfl; exact rfl; exact tf) | ((with_reducible apply zU); exact rfl; exact rfl) | ((with_reducible apply zD); exact rfl; exact rfl) | ((with_reducible apply zB); exact rfl; exact rfl)))
    refine ⟨rfl, .gv rfl rfl, rfl, ?_, ?_⟩
    rotate_left
    · (repeat' (first | (with_reducible first | intro hg | refine mv (by constructor) ?_) | ((with_reducible first | refine zR ?_ ?_ | refine zW mixed ?_ ?_); exact kr) | ((with_reducible apply zK); exact rfl; exact tf) | ((with_reducible apply zCD); exact rfl) | ((with_reducible apply zCN); exact rfl) | ((with_reducible apply zC); exact rfl) | ((with_reducible refine zX ?_ ?_); exact rfl) | ((with_reducible refine zE (And.intro ?_ ?_)); exact kr) | (with_reducible refine zE ?_) | ((with_reducible apply zP); exact dp) | ((with_reducible apply zN); exact dn) | ((with_reducible apply zA); exact da) | ((with_reducible apply zS); exact ds) | ((with_reducible apply zY); exact rfl; exact rfl; exact tf) | ((with_reducible apply zG); exact rfl; exact rfl; exact tf) | ((with_reducible apply zU); exact rfl; exact rfl) | ((with_reducible apply zD); exact rfl; exact rfl) | ((with_reducible apply zB); exact rfl; exact rfl)))
      exact .inr ⟨_, rfl⟩
    by_cases hj : k + 1 < m.d
    · have hlt' := hlt' hj
      (repeat' (first | (with_reducible first | intro hg | refine mv (by constructor) ?_) | ((with_reducible first | refine zR ?_ ?_ | refine zW mixed ?_ ?_); exact kr) | ((with_reducible apply zK); exact rfl; exact tf) | ((with_reducible apply zCD); exact rfl) | ((with_reducible apply zCN); exact rfl) | ((with_reducible apply zC); exact rfl) | ((with_reducible refine zX ?_ ?_); exact rfl) | ((with_reducible refine zE (And.intro ?_ ?_)); exact kr) | (with_reducible refine zE ?_) | ((with_reducible apply zP); exact dp) | ((with_reducible apply zN); exact dn) | ((with_reducible apply zA); exact da) | ((with_reducible apply zS); exact ds) | ((with_reducible apply zY); exact rfl; exact rfl; exact tf) | ((with_reducible apply zG); exact rfl; exact rfl; exact tf) | ((with_reducible apply zU); exact rfl; exact rfl) | ((with_reducible apply zD); exact rfl; exact rfl) | ((with_reducible apply zB); exact rfl; exact rfl)))
      exact ⟨k + 1 + 1, hlt, by omega, (And.intro rfl (And.intro rfl (And.intro rfl (And.intro rfl (And.intro (congrArg (fun n => AV.d (I n)) hlt'.symm) (And.intro (rfl) (And.intro (rfl) trivial))))))), (And.intro rfl trivial)⟩
    · have hj : m.d ≤ k + 1 := by omega
      have hoj := hoj hj
      have hsz := hsz hj
      have hge := hge hj
      have hnl := hnl (k + 1)
      have hll := lst_length (m.out f) (k + 1 + 1)
      obtain ⟨c1, c2⟩ := cr_bnd hm hoj
      unfold Mon.cr at hge
      rw [← hnl] at hoj hsz hge c1
      clear c2 hlt' hnl hget hpk hI
      by_cases hb : ((nth (lst (m.out f) (k + 1 + 1)) (k + 1 - m.d)).natAbs : Int) > m.band
      · rw [decide_eq_true hb] at hge
        have hq := Int.natAbs_tdiv_le_natAbs (m.num * nth (lst (m.out f) (k + 1 + 1)) (k + 1 - m.d)) m.den
        (repeat' (first | (with_reducible first | intro hg | refine mv (by constructor) ?_) | ((with_reducible first | refine zR ?_ ?_ | refine zW mixed ?_ ?_); exact kr) | ((with_reducible apply zK); exact rfl; exact tf) | ((with_reducible apply zCD); exact rfl) | ((with_reducible apply zCN); exact rfl) | ((with_reducible apply zC); exact rfl) | ((with_reducible refine zX ?_ ?_); exact rfl) | ((with_reducible refine zE (And.intro ?_ ?_)); exact kr) | (with_reducible refine zE ?_) | ((with_reducible apply zP); (first | exact o_indexL (o := k + 1 - m.d) rfl rfl (by omega) (by omega) (by omega) | exact dp | exact oc rfl (hsz))) | ((with_reducible apply zN); exact dn) | ((with_reducible apply zA); exact da) | ((with_reducible apply zS); exact ds) | ((with_reducible apply zY); exact rfl; exact rfl; exact tf) | ((with_reducible apply zG); exact rfl; exact rfl; exact tf) | ((with_reducible apply zU); exact rfl; exact rfl) | ((with_reducible apply zD); exact rfl; exact rfl) | ((with_reducible apply zB); exact rfl; exact rfl)))
        exact ⟨k + 1 + 1, hlt, by omega, (And.intro rfl (And.intro rfl (And.intro rfl (And.intro rfl (And.intro (congrArg (fun n => AV.d (I n)) hge.symm) (And.intro (rfl) (And.intro (rfl) trivial))))))), (And.intro rfl trivial)⟩
      · rw [decide_eq_false hb] at hge
        (repeat' (first | (with_reducible first | intro hg | refine mv (by constructor) ?_) | ((with_reducible first | refine zR ?_ ?_ | refine zW mixed ?_ ?_); exact kr) | ((with_reducible apply zK); exact rfl; exact tf) | ((with_reducible apply zCD); exact rfl) | ((with_reducible apply zCN); exact rfl) | ((with_reducible apply zC); exact rfl) | ((with_reducible refine zX ?_ ?_); exact rfl) | ((with_reducible refine zE (And.intro ?_ ?_)); exact kr) | (with_reducible refine zE ?_) | ((with_reducible apply zP); (first | exact o_indexL (o := k + 1 - m.d) rfl rfl (by omega) (by omega) (by omega) | exact dp | exact oc rfl (hsz))) | ((with_reducible apply zN); exact dn) | ((with_reducible apply zA); exact da) | ((with_reducible apply zS); exact ds) | ((with_reducible apply zY); exact rfl; exact rfl; exact tf) | ((with_reducible apply zG); exact rfl; exact rfl; exact tf) | ((with_reducible apply zU); exact rfl; exact rfl) | ((with_reducible apply zD); exact rfl; exact rfl) | ((with_reducible apply zB); exact rfl; exact rfl)))
        exact ⟨k + 1 + 1, hlt, by omega, (And.intro rfl (And.intro rfl (And.intro rfl (And.intro rfl (And.intro (congrArg (fun n => AV.d (I n)) (show m.cor f (k + 1) = m.cor f (k + 1 + 1) by rw [hge]; exact (Int.sub_zero _).symm)) (And.intro (rfl) (And.intro (rfl) trivial))))))), (And.intro rfl trivial)⟩

end Go.Proofs.YtfcfmpdpjmbcnaaGreatDoor
/- The monitor of the examples rests. Nothing of the program. -/
set_option linter.unusedVariables false
set_option linter.unusedSimpArgs false
namespace Go.Proofs.YtfcfmpdpjmbcnaaGreatDoor
open Go.RowKit
set_option maxRecDepth 20000

theorem ex_rest : (Mon.mk 1 1 2 1).restR 8 = (7, 0) := by
  obtain ⟨m, hm⟩ : ∃ m, m = Mon.mk 1 1 2 1 := ⟨_, rfl⟩
  rw [← hm]
  have hd : m.d = 1 := by rw [hm]
  have hcr : ∀ y, m.cr y = (Mon.mk 1 1 2 1).cr y := by rw [hm]; intro y; rfl
  obtain ⟨f, hf⟩ : ∃ f : Nat → Int, f = fun _ => 8 := ⟨_, rfl⟩
  have st (t : Nat) (y c d : Int) (h1 : m.out f t = y) (h2 : m.cor f (t + 1) = c) (h3 : c - (Mon.mk 1 1 2 1).cr y = d) : m.cor f (t + 1 + 1) = d := by
    rw [m.cor_ge f (t := t + 1) (by omega), h2, hd, Nat.add_sub_cancel, h1, hcr, h3]
  have o (t : Nat) (c d : Int) (h : m.cor f t = c) (hd : 8 + c = d) : m.out f t = d := by
    show f t + m.cor f t = d
    rw [h, hf, hd]
  have c0 : m.cor f 0 = 0 := rfl
  have c1 : m.cor f 1 = 0 := m.cor_lt f (t := 0) (by omega)
  have o0 := o 0 _ 8 c0 rfl
  have o1 := o 1 _ 8 c1 rfl
  have c2 := st 0 8 0 (-4) o0 c1 (by decide)
  have o2 := o 2 _ 4 c2 rfl
  have c3 := st 1 8 (-4) (-8) o1 c2 (by decide)
  have o3 := o 3 _ 0 c3 rfl
  have c4 := st 2 4 (-8) (-10) o2 c3 (by decide)
  have o4 := o 4 _ (-2) c4 rfl
  have c5 := st 3 0 (-10) (-10) o3 c4 (by decide)
  have o5 := o 5 _ (-2) c5 rfl
  have c6 := st 4 (-2) (-10) (-9) o4 c5 (by decide)
  have o6 := o 6 _ (-1) c6 rfl
  have c7 := st 5 (-2) (-9) (-8) o5 c6 (by decide)
  have o7 := o 7 _ 0 c7 rfl
  have c8 := st 6 (-1) (-8) (-8) o6 c7 (by decide)
  have o8 := o 8 _ 0 c8 rfl
  have c9 := st 7 0 (-8) (-8) o7 c8 (by decide)
  have o9 := o 9 _ 0 c9 rfl
  have ho : m.o 8 = m.out f := by rw [hf]; rfl
  have hc : cst (m.o 8) 7 (m.d + 2) := fun j hj => by
    rw [ho]
    obtain rfl | rfl | rfl : j = 0 ∨ j = 1 ∨ j = 2 := by omega
    · rfl
    · rw [o7]; exact o8
    · rw [o7]; exact o9
  have hr := m.rest_of (D := 8) (r := 7) (by omega) hc (.inr (by rw [ho, o7, o6]; decide))
  have hb : bigO (m.o 8) 501 = false := bigO_false.2 fun t ht => by
    by_cases h7 : 7 ≤ t
    · have h8 := (m.rest_some hr).2.1 (t - 7)
      rw [show 7 + (t - 7) = t by omega, ho, o7] at h8
      rw [ho, h8]; decide
    · rw [ho]
      obtain rfl | rfl | rfl | rfl | rfl | rfl | rfl : t = 0 ∨ t = 1 ∨ t = 2 ∨ t = 3 ∨ t = 4 ∨ t = 5 ∨ t = 6 := by omega
      · rw [o0]; decide
      · rw [o1]; decide
      · rw [o2]; decide
      · rw [o3]; decide
      · rw [o4]; decide
      · rw [o5]; decide
      · rw [o6]; decide
  unfold Mon.restR
  rw [hb, hr]; rfl

end Go.Proofs.YtfcfmpdpjmbcnaaGreatDoor
