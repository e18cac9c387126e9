/- Runs are sums of responses; the norm bounds a run. Nothing of the program. -/
import Derived.Test.YtfcfmpdpjmbcnaaGreatDoorSff
import Derived.Test.YtfcfmpdpjmbcnaaGreatDoorUy
set_option linter.unusedVariables false
set_option linter.unusedSimpArgs false
namespace Go.Proofs.YtfcfmpdpjmbcnaaGreatDoor
open Go.RowKit
set_option maxRecDepth 20000

/-! Runs are sums of responses. -/
def sumQ (f : Nat → Rat) : Nat → Rat
  | 0 => 0
  | n + 1 => sumQ f n + f n
theorem sumQ_congr {f g : Nat → Rat} : ∀ {n : Nat}, (∀ i, i < n → f i = g i) → sumQ f n = sumQ g n
  | 0, _ => rfl
  | n + 1, h => by unfold sumQ; rw [sumQ_congr fun i hi => h i (by omega), h n (by omega)]
theorem sumQ_add (f g : Nat → Rat) : ∀ n, sumQ (fun i => f i + g i) n = sumQ f n + sumQ g n
  | 0 => by unfold sumQ; rw [Rat.add_zero]
  | n + 1 => by unfold sumQ; rw [sumQ_add f g n]; grind
theorem sumQ_mul (f : Nat → Rat) (k : Rat) : ∀ n, sumQ (fun i => k * f i) n = k * sumQ f n
  | 0 => by unfold sumQ; rw [Rat.mul_zero]
  | n + 1 => by unfold sumQ; rw [sumQ_mul f k n]; grind
theorem sumQ_zero : ∀ n, sumQ (fun _ => 0) n = 0
  | 0 => rfl
  | n + 1 => by unfold sumQ; rw [sumQ_zero n, Rat.add_zero]
theorem sumQ_comm (f : Nat → Nat → Rat) (m : Nat) : ∀ n, sumQ (fun i => sumQ (f i) m) n = sumQ (fun k => sumQ (fun i => f i k) n) m
  | 0 => by
    show (0 : Rat) = sumQ (fun _ => 0) m
    rw [sumQ_zero]
  | n + 1 => by
    show sumQ (fun i => sumQ (f i) m) n + sumQ (f n) m = _
    rw [sumQ_comm f m n, ← sumQ_add]; rfl
theorem sumQ_le {f g : Nat → Rat} : ∀ {n : Nat}, (∀ i, i < n → f i ≤ g i) → sumQ f n ≤ sumQ g n
  | 0, _ => Rat.le_refl
  | n + 1, h => by
    have h1 := sumQ_le (n := n) fun i hi => h i (by omega)
    have h2 := h n (by omega)
    unfold sumQ
    grind
theorem tkS_sum (den : Int) (cs : List Int) (d : Int) (st : List Rat) : ∀ n, tkS den cs d st n = (d : Rat) + sumQ (fun i => Rat.divInt (nth cs i) den * st.getD i 0) n
  | 0 => by unfold tkS sumQ; rw [Rat.add_zero]
  | n + 1 => by unfold tkS sumQ; rw [tkS_sum den cs d st n]; grind
theorem absR_add (a b : Rat) : absR (a + b) ≤ absR a + absR b := by
  unfold absR
  by_cases h1 : a < 0 <;> by_cases h2 : b < 0 <;> by_cases h3 : a + b < 0 <;> simp only [h1, h2, h3, decide_true, decide_false, cond_true, cond_false] <;> grind
theorem absR_mul (a b : Rat) : absR (a * b) = absR a * absR b := by
  by_cases h : b < 0
  · have e : absR b = -b := by unfold absR; rw [decide_eq_true h]; rfl
    have h1 := absR_mul_nat a (k := -b) (by grind)
    rw [e, h1]
    have e2 : a * -b = -(a * b) := by grind
    rw [e2]
    generalize a * b = x
    unfold absR
    by_cases h1 : x < 0 <;> by_cases h2 : -x < 0 <;> simp only [h1, h2, decide_true, decide_false, cond_true, cond_false] <;> grind
  · have e : absR b = b := by unfold absR; rw [decide_eq_false h]; rfl
    rw [e, absR_mul_nat a (Rat.not_lt.1 h)]
theorem absR_sum (f : Nat → Rat) : ∀ n, absR (sumQ f n) ≤ sumQ (fun i => absR (f i)) n
  | 0 => Rat.le_refl
  | n + 1 => by
    have h1 := absR_sum f n
    have h2 := absR_add (sumQ f n) (f n)
    unfold sumQ
    grind
/-! The norm bounds a run. -/
def sumI (f : Nat → Int) : Nat → Int
  | 0 => 0
  | n + 1 => sumI f n + f n
theorem rngM_mem {a b : Rg} {x y : Int} (h1 : a.1 ≤ x) (h2 : x ≤ a.2) (h3 : b.1 ≤ y) (h4 : y ≤ b.2) : (rngM a b).1 ≤ x * y ∧ x * y ≤ (rngM a b).2 := by
  unfold rngM
  simp only
  have k1 : x * y ≤ max (a.1 * y) (a.2 * y) := by
    by_cases hy : 0 ≤ y
    · have := Int.mul_le_mul_of_nonneg_right h2 hy; omega
    · have := Int.mul_le_mul_of_nonpos_right h1 (by omega : y ≤ 0); omega
  have k2 : min (a.1 * y) (a.2 * y) ≤ x * y := by
    by_cases hy : 0 ≤ y
    · have := Int.mul_le_mul_of_nonneg_right h1 hy; omega
    · have := Int.mul_le_mul_of_nonpos_right h2 (by omega : y ≤ 0); omega
  have k3 : ∀ z : Int, z * y ≤ max (z * b.1) (z * b.2) ∧ min (z * b.1) (z * b.2) ≤ z * y := fun z => by
    by_cases hz : 0 ≤ z
    · have := Int.mul_le_mul_of_nonneg_left h3 hz
      have := Int.mul_le_mul_of_nonneg_left h4 hz
      omega
    · have := Int.mul_le_mul_of_nonpos_left (by omega : z ≤ 0) h3
      have := Int.mul_le_mul_of_nonpos_left (by omega : z ≤ 0) h4
      omega
  have k4 := k3 a.1
  have k5 := k3 a.2
  omega
theorem sumR_mem {f : Nat → Rg} {g : Nat → Int} : ∀ {n : Nat}, (∀ j, j < n → (f j).1 ≤ g j ∧ g j ≤ (f j).2) → (sumR f n).1 ≤ sumI g n ∧ sumI g n ≤ (sumR f n).2
  | 0, _ => ⟨Int.le_refl _, Int.le_refl _⟩
  | n + 1, h => by
    have h1 := sumR_mem (n := n) fun j hj => h j (by omega)
    have h2 := h n (by omega)
    unfold sumR sumI
    simp only
    omega
def tkA (c : List Int) (den : Int) : Nat → Nat → Int
  | 0, j => nth c j
  | i + 1, j => bif i == j then den else 0
def mtx (den : Int) (n : Nat) (cs : Nat → List Int) : Nat → Nat → Nat → Int
  | 0, i, k => bif i == k then 1 else 0
  | t + 1, i, k => sumI (fun j => tkA (cs t) den i j * mtx den n cs t j k) n
theorem mtx_mem {c : List Rg} {den : Int} {n : Nat} {cs : Nat → List Int} : ∀ {T : Nat}, (∀ t, t < T → ∀ i, i < n → (c.getD i rg0).1 ≤ nth (cs t) i ∧ nth (cs t) i ≤ (c.getD i rg0).2) → ∀ i k, (powM c den n T i k).1 ≤ mtx den n cs T i k ∧ mtx den n cs T i k ≤ (powM c den n T i k).2
  | 0, _, i, k => by
    unfold powM mtx unM
    cases i == k <;> exact ⟨Int.le_refl _, Int.le_refl _⟩
  | T + 1, h, i, k => by
    have ih := mtx_mem (den := den) (n := n) (cs := cs) (T := T) fun t ht => h t (by omega)
    unfold powM mtx mulM
    refine sumR_mem fun j hj => ?_
    refine rngM_mem ?_ ?_ (ih j k).1 (ih j k).2
    · rcases i with _ | i
      · exact (h T (by omega) j hj).1
      · show (bif i == j then (den, den) else (0, 0) : Rg).1 ≤ bif i == j then den else 0
        cases i == j <;> exact Int.le_refl _
    · rcases i with _ | i
      · exact (h T (by omega) j hj).2
      · show (bif i == j then den else 0) ≤ (bif i == j then (den, den) else (0, 0) : Rg).2
        cases i == j <;> exact Int.le_refl _
theorem sumI_cast (f : Nat → Int) : ∀ n, ((sumI f n : Int) : Rat) = sumQ (fun i => ((f i : Int) : Rat)) n
  | 0 => rfl
  | n + 1 => by unfold sumI sumQ; rw [Rat.intCast_add, sumI_cast f n]
theorem sumQ_one {f : Nat → Rat} {i : Nat} : ∀ {n : Nat}, i < n → (∀ j, j < n → j ≠ i → f j = 0) → sumQ f n = f i
  | n + 1, hi, h => by
    unfold sumQ
    by_cases e : i = n
    · subst e
      have : sumQ f i = sumQ (fun _ => 0) i := sumQ_congr fun j hj => h j (by omega) (by omega)
      rw [this, sumQ_zero, Rat.zero_add]
    · rw [sumQ_one (by omega) fun j hj hne => h j (by omega) hne, h n (by omega) (fun h => e h.symm), Rat.add_zero]
def stt (den : Int) (cs : Nat → List Int) (n : Nat) (st : List Rat) : Nat → List Rat
  | 0 => st
  | t + 1 => tkS den (cs t) 0 (stt den cs n st t) n :: stt den cs n st t
theorem stt_mtx {den : Int} (hd : den ≠ 0) {cs : Nat → List Int} {n : Nat} {st : List Rat} : ∀ t i, i < n → (stt den cs n st t).getD i 0 * ((den ^ t : Int) : Rat) = sumQ (fun k => ((mtx den n cs t i k : Int) : Rat) * st.getD k 0) n
  | 0, i, hi => by
    have e : ((1 : Int) : Rat) = 1 := rfl
    rw [Int.pow_zero, e, Rat.mul_one]
    show st.getD i 0 = _
    rw [ sumQ_one hi fun j _ hne => ?_]
    · unfold mtx
      rw [show (i == i) = true by simp]
      show _ = ((1 : Int) : Rat) * _
      rw [e, Rat.one_mul]
    · unfold mtx
      rw [show (i == j) = false by simp; exact fun h => hne h.symm]
      show ((0 : Int) : Rat) * _ = 0
      exact Rat.zero_mul _
  | t + 1, i, hi => by
    have ih := stt_mtx hd (cs := cs) (n := n) (st := st) t
    have hR : sumQ (fun k => ((mtx den n cs (t + 1) i k : Int) : Rat) * st.getD k 0) n = sumQ (fun j => ((tkA (cs t) den i j : Int) : Rat) * ((stt den cs n st t).getD j 0 * ((den ^ t : Int) : Rat))) n := by
      have h1 : sumQ (fun j => ((tkA (cs t) den i j : Int) : Rat) * ((stt den cs n st t).getD j 0 * ((den ^ t : Int) : Rat))) n = sumQ (fun j => sumQ (fun k => ((tkA (cs t) den i j : Int) : Rat) * (((mtx den n cs t j k : Int) : Rat) * st.getD k 0)) n) n :=
        sumQ_congr fun j hj => by rw [ih j hj, sumQ_mul]
      rw [h1, sumQ_comm]
      refine sumQ_congr fun k hk => ?_
      show ((sumI (fun j => tkA (cs t) den i j * mtx den n cs t j k) n : Int) : Rat) * st.getD k 0 = _
      rw [sumI_cast, Rat.mul_comm, ← sumQ_mul]
      exact sumQ_congr fun j hj => by rw [Rat.intCast_mul]; grind
    rw [hR, Int.pow_succ, Rat.intCast_mul]
    rcases i with _ | i
    · show tkS den (cs t) 0 (stt den cs n st t) n * _ = sumQ (fun j => ((nth (cs t) j : Int) : Rat) * _) n
      rw [tkS_sum, show ((0 : Int) : Rat) = 0 from rfl, Rat.zero_add, Rat.mul_comm, ← sumQ_mul]
      refine sumQ_congr fun j hj => ?_
      have := divInt_mul_cast (nth (cs t) j) hd
      rw [← this]
      grind
    · show (stt den cs n st t).getD i 0 * _ = sumQ (fun j => (((bif i == j then den else 0 : Int) : Int) : Rat) * _) n
      rw [sumQ_one (i := i) (by omega) fun j _ hne => ?_]
      · rw [show (i == i) = true by simp]
        show _ = ((den : Int) : Rat) * _
        grind
      · rw [show (i == j) = false by simp; exact fun h => hne h.symm]
        show ((0 : Int) : Rat) * _ = 0
        exact Rat.zero_mul _
theorem rowS_sum (M : Mx) (w : List Int) (i : Nat) : ∀ n, ((rowS M w i n : Int) : Rat) = sumQ (fun j => ((max ((M i j).1.natAbs : Int) ((M i j).2.natAbs : Int) : Int) : Rat) * ((nth w j : Int) : Rat)) n
  | 0 => rfl
  | n + 1 => by unfold rowS sumQ; rw [Rat.intCast_add, rowS_sum M w i n, Rat.intCast_mul]
theorem absR_le_cast {n : Int} {a b : Int} (h1 : a ≤ n) (h2 : n ≤ b) : absR (n : Rat) ≤ ((max (a.natAbs : Int) (b.natAbs : Int) : Int) : Rat) := by
  rw [absR_int]
  exact_mod_cast (show (n.natAbs : Int) ≤ max (a.natAbs : Int) (b.natAbs : Int) by omega)
theorem div_le_of {a b V : Rat} (hb : 0 < b) (h : a ≤ b * V) : a / b ≤ V := by
  have h1 : a / b * b ≤ V * b := by
    have : a / b * b = a := by grind
    rw [this]; grind
  exact Rat.le_of_mul_le_mul_right h1 hb
theorem le_mul_of_div {a b V : Rat} (hb : 0 < b) (h : a / b ≤ V) : a ≤ b * V := by
  have h1 : a / b * b ≤ V * b := Rat.mul_le_mul_of_nonneg_right h (Rat.le_of_lt hb)
  have : a / b * b = a := by grind
  grind
theorem stt_norm {c : List Rg} {den : Int} (hd : 1 ≤ den) {n s : Nat} {w : List Int} (hw : ∀ i, i < n → 1 ≤ nth w i) {cs : Nat → List Int} (hc : ∀ t, t < s → ∀ i, i < n → (c.getD i rg0).1 ≤ nth (cs t) i ∧ nth (cs t) i ≤ (c.getD i rg0).2) (st : List Rat) :
    wtR w (stt den cs n st s) n ≤ nrmR (powM c den n s) w (den ^ s) n n * wtR w st n := by
  have hV := wtR_nonneg w st n
  have hN := nrmR_nonneg (M := powM c den n s) (w := w) (dp := den ^ s) (n := n) n
  have hp := pow_cast_pos hd s
  have hpI := pow_pos hd s
  refine wtR_lub w _ (Rat.mul_nonneg hN hV) n fun i hi => ?_
  have hwi : (0 : Rat) < ((nth w i : Int) : Rat) := by exact_mod_cast (show (0 : Int) < nth w i by have := hw i hi; omega)
  refine div_le_of hwi ?_
  have h1 := stt_mtx (den := den) (by omega) (cs := cs) (n := n) (st := st) s i hi
  have h2 : absR ((stt den cs n st s).getD i 0) * ((den ^ s : Int) : Rat) ≤ ((rowS (powM c den n s) w i n : Int) : Rat) * wtR w st n := by
    rw [absR_mul_nat _ (Rat.le_of_lt hp), h1]
    refine Rat.le_trans (absR_sum _ n) ?_
    rw [rowS_sum, Rat.mul_comm, ← sumQ_mul]
    refine sumQ_le fun k hk => ?_
    have hm := mtx_mem (den := den) (n := n) hc i k
    have h3 := absR_le_cast hm.1 hm.2
    rw [absR_mul]
    have hwk : (0 : Rat) < ((nth w k : Int) : Rat) := by exact_mod_cast (show (0 : Int) < nth w k by have := hw k hk; omega)
    have h4 := le_mul_of_div hwk (wtR_le w st hk)
    have h5 := Rat.mul_le_mul_of_nonneg_right h3 (absR_nonneg (st.getD k 0))
    have h6 : (0 : Rat) ≤ ((max ((powM c den n s i k).1.natAbs : Int) ((powM c den n s i k).2.natAbs : Int) : Int) : Rat) := by exact_mod_cast (show (0 : Int) ≤ max ((powM c den n s i k).1.natAbs : Int) ((powM c den n s i k).2.natAbs : Int) by omega)
    have h7 := Rat.mul_le_mul_of_nonneg_left h4 h6
    generalize ((max ((powM c den n s i k).1.natAbs : Int) ((powM c den n s i k).2.natAbs : Int) : Int) : Rat) = A at *
    generalize absR (st.getD k 0) = x at *
    generalize wtR w st n = V at *
    refine Rat.le_trans h5 (Rat.le_trans h7 ?_)
    grind
  have h3 := nrmR_le (M := powM c den n s) (w := w) (dp := den ^ s) (n := n) hi
  rw [Rat.divInt_eq_div, Rat.intCast_mul] at h3
  have h4 := le_mul_of_div (show (0 : Rat) < ((nth w i : Int) : Rat) * ((den ^ s : Int) : Rat) from Rat.mul_pos hwi hp) h3
  have h5 := Rat.mul_le_mul_of_nonneg_right h4 hV
  generalize nrmR (powM c den n s) w (den ^ s) n n = N at *
  generalize ((rowS (powM c den n s) w i n : Int) : Rat) = S at *
  generalize wtR w st n = V at *
  generalize absR ((stt den cs n st s).getD i 0) = y at *
  generalize ((nth w i : Int) : Rat) = u at *
  generalize ((den ^ s : Int) : Rat) = p at *
  have h6 : y * p ≤ (u * (N * V)) * p := Rat.le_trans h2 (Rat.le_trans h5 (by grind))
  exact Rat.le_of_mul_le_mul_right h6 hp
end Go.Proofs.YtfcfmpdpjmbcnaaGreatDoor
/- Rounds of ticks shrink; narrower ranges have a smaller norm (chapter 5). Nothing of the program. -/
set_option linter.unusedVariables false
set_option linter.unusedSimpArgs false
namespace Go.Proofs.YtfcfmpdpjmbcnaaGreatDoor
open Go.RowKit
set_option maxRecDepth 20000

/-! Rounds. -/
theorem stt_shift (den : Int) (cs : Nat → List Int) (n : Nat) (st : List Rat) (a : Nat) : ∀ b, stt den cs n st (a + b) = stt den (fun t => cs (a + t)) n (stt den cs n st a) b
  | 0 => rfl
  | b + 1 => by
    show tkS den (cs (a + b)) 0 (stt den cs n st (a + b)) n :: stt den cs n st (a + b) = _
    rw [stt_shift den cs n st a b]
    rfl
theorem round_le {c : List Rg} {den : Int} (hd : 1 ≤ den) {n s : Nat} {w : List Int} (hw : ∀ i, i < n → 1 ≤ nth w i) {cs : Nat → List Int} (hc : ∀ t, ∀ i, i < n → (c.getD i rg0).1 ≤ nth (cs t) i ∧ nth (cs t) i ≤ (c.getD i rg0).2) (st : List Rat) (a : Nat) :
    wtR w (stt den cs n st (a + s)) n ≤ nrmR (powM c den n s) w (den ^ s) n n * wtR w (stt den cs n st a) n := by
  rw [stt_shift]
  exact stt_norm hd hw (fun t _ i hi => hc (a + t) i hi) _
theorem rounds_le {c : List Rg} {den : Int} (hd : 1 ≤ den) {n s : Nat} {w : List Int} (hw : ∀ i, i < n → 1 ≤ nth w i) {cs : Nat → List Int} (hc : ∀ t, ∀ i, i < n → (c.getD i rg0).1 ≤ nth (cs t) i ∧ nth (cs t) i ≤ (c.getD i rg0).2) (st : List Rat) (hN : nrmR (powM c den n s) w (den ^ s) n n < 1) :
    ∀ j, wtR w (stt den cs n st ((j + 1) * s)) n ≤ nrmR (powM c den n s) w (den ^ s) n n * wtR w st n
  | 0 => by
    have := round_le (s := s) hd hw hc st 0
    rw [Nat.zero_add] at this
    rw [Nat.zero_add, Nat.one_mul]
    exact this
  | j + 1 => by
    have h1 := round_le (s := s) hd hw hc st ((j + 1) * s)
    have h2 := rounds_le hd hw hc st hN j
    have h0 := wtR_nonneg w (stt den cs n st ((j + 1) * s)) n
    rw [Nat.add_mul (j + 1) 1 s, Nat.one_mul]
    generalize wtR w (stt den cs n st ((j + 1) * s)) n = V at *
    have h3 : nrmR (powM c den n s) w (den ^ s) n n * V ≤ 1 * V := Rat.mul_le_mul_of_nonneg_right (Rat.le_of_lt hN) h0
    rw [Rat.one_mul] at h3
    exact Rat.le_trans h1 (Rat.le_trans h3 h2)

/-! Narrower ranges. -/
def RgIn (a b : Rg) : Prop := b.1 ≤ a.1 ∧ a.1 ≤ a.2 ∧ a.2 ≤ b.2
theorem rngM_in {a b a' b' : Rg} (h : RgIn a' a) (g : RgIn b' b) : RgIn (rngM a' b') (rngM a b) := by
  obtain ⟨h1, h2, h3⟩ := h
  obtain ⟨g1, g2, g3⟩ := g
  have k1 := rngM_mem (a := a) (b := b) (x := a'.1) (y := b'.1) h1 (by omega) g1 (by omega)
  have k2 := rngM_mem (a := a) (b := b) (x := a'.1) (y := b'.2) h1 (by omega) (by omega) g3
  have k3 := rngM_mem (a := a) (b := b) (x := a'.2) (y := b'.1) (by omega) h3 g1 (by omega)
  have k4 := rngM_mem (a := a) (b := b) (x := a'.2) (y := b'.2) (by omega) h3 (by omega) g3
  generalize rngM a b = r at *
  unfold RgIn rngM
  simp only
  omega
theorem sumR_in {f g : Nat → Rg} : ∀ {n : Nat}, (∀ j, j < n → RgIn (f j) (g j)) → RgIn (sumR f n) (sumR g n)
  | 0, _ => ⟨Int.le_refl _, Int.le_refl _, Int.le_refl _⟩
  | n + 1, h => by
    obtain ⟨h1, h2, h3⟩ := sumR_in (n := n) fun j hj => h j (by omega)
    obtain ⟨g1, g2, g3⟩ := h n (by omega)
    unfold RgIn sumR
    simp only
    omega
theorem powM_in {c c' : List Rg} {den : Int} {n : Nat} (h : ∀ j, RgIn (c'.getD j rg0) (c.getD j rg0)) : ∀ s i k, RgIn (powM c' den n s i k) (powM c den n s i k)
  | 0, i, k => by
    unfold powM unM
    cases i == k <;> exact ⟨Int.le_refl _, Int.le_refl _, Int.le_refl _⟩
  | s + 1, i, k => by
    unfold powM mulM
    refine sumR_in fun j hj => rngM_in ?_ (powM_in h s j k)
    rcases i with _ | i
    · exact h j
    · show RgIn (bif i == j then (den, den) else (0, 0)) (bif i == j then (den, den) else (0, 0))
      cases i == j <;> exact ⟨Int.le_refl _, Int.le_refl _, Int.le_refl _⟩
theorem rowS_in {M O : Mx} {w : List Int} (h : ∀ i k, RgIn (M i k) (O i k)) (hw : ∀ j, 0 ≤ nth w j) (i : Nat) : ∀ n, rowS M w i n ≤ rowS O w i n
  | 0 => Int.le_refl _
  | n + 1 => by
    have ih := rowS_in h hw i n
    obtain ⟨h1, h2, h3⟩ := h i n
    have hm : max ((M i n).1.natAbs : Int) ((M i n).2.natAbs : Int) * nth w n ≤ max ((O i n).1.natAbs : Int) ((O i n).2.natAbs : Int) * nth w n := Int.mul_le_mul_of_nonneg_right (by omega) (hw n)
    show rowS M w i n + _ ≤ rowS O w i n + _
    omega
theorem nrmR_lub {M : Mx} {w : List Int} {dp : Int} {n : Nat} {V : Rat} (hV : 0 ≤ V) : ∀ {i : Nat}, (∀ j, j < i → Rat.divInt (rowS M w j n) (nth w j * dp) ≤ V) → nrmR M w dp n i ≤ V
  | 0, _ => hV
  | i + 1, h => by
    unfold nrmR
    cases decide (nrmR M w dp n i < Rat.divInt (rowS M w i n) (nth w i * dp))
    · exact nrmR_lub hV fun j hj => h j (by omega)
    · exact h i (by omega)
theorem divInt_le {a b d : Int} (hd : 0 < d) (h : a ≤ b) : Rat.divInt a d ≤ Rat.divInt b d := by
  have hp : (0 : Rat) < (d : Rat) := by exact_mod_cast hd
  refine Rat.le_of_mul_le_mul_right (c := (d : Rat)) ?_ hp
  rw [divInt_mul_cast a (by omega), divInt_mul_cast b (by omega)]
  exact_mod_cast h
theorem nrmR_in {c c' : List Rg} {den : Int} (hd : 1 ≤ den) {n s : Nat} {w : List Int} (h : ∀ j, RgIn (c'.getD j rg0) (c.getD j rg0)) (hw : ∀ i, i < n → 1 ≤ nth w i) (hw0 : ∀ j, 0 ≤ nth w j) : nrmR (powM c' den n s) w (den ^ s) n n ≤ nrmR (powM c den n s) w (den ^ s) n n := by
  refine nrmR_lub (nrmR_nonneg _) fun j hj => Rat.le_trans (divInt_le (Int.mul_pos (by have := hw j hj; omega) (pow_pos hd s)) (rowS_in (fun i k => powM_in h s i k) hw0 j n)) (nrmR_le hj)
def half (r : Rg) : Rg := (r.1, r.1 + (r.2 - r.1).tdiv 2)
def halfL (c : List Rg) : List Rg := c.map half
theorem half_in {r : Rg} (h : r.1 ≤ r.2) : RgIn (half r) r := by
  have e : (r.2 - r.1).tdiv 2 = (r.2 - r.1) / 2 := Int.tdiv_eq_ediv_of_nonneg (by omega)
  unfold half RgIn
  simp only
  rw [e]
  omega
theorem halfL_in {c : List Rg} (h : ∀ r ∈ c, r.1 ≤ r.2) (j : Nat) : RgIn ((halfL c).getD j rg0) (c.getD j rg0) := by
  unfold halfL
  rw [List.getD_eq_getElem?_getD, List.getD_eq_getElem?_getD, List.getElem?_map]
  cases hj : c[j]? with
  | none => exact ⟨Int.le_refl _, Int.le_refl _, Int.le_refl _⟩
  | some r => exact half_in (h r (List.mem_of_getElem? hj))
theorem rgE_of : ∀ {c : List Rg}, (∀ r ∈ c, (-10 ≤ r.1 ∧ r.1 ≤ 10) ∧ (-10 ≤ r.2 ∧ r.2 ≤ 10) ∧ r.1 ≤ r.2) → rgE c = 0
  | [], _ => rfl
  | x :: c, h => by
    obtain ⟨h1, h2, h3⟩ := h x List.mem_cons_self
    have e : rgE1 x = 0 := by
      unfold rgE1
      rw [inR_true.2 h1, inR_true.2 h2, decide_eq_true h3]; rfl
    unfold rgE
    rw [e]
    exact rgE_of fun r hr => h r (List.mem_cons_of_mem _ hr)
theorem loE_of {c : List Rg} {den : Int} (h : LoopOk c den) : loE c den = 0 := by
  have h1 := h.l1
  have h3 := h.l3
  have e : loH c = 0 := by
    unfold loH
    rw [decide_eq_true (show (0 : Int) < (c.length : Int) by omega), decide_eq_true (show (c.length : Int) ≤ 3 by omega)]; rfl
  unfold loE
  rw [e, rgE_of h.b, inR_true.2 h.d]; rfl
theorem halfL_ok {c : List Rg} {den : Int} (h : LoopOk c den) : LoopOk (halfL c) den := by
  refine ⟨by unfold halfL; rw [List.length_map]; exact h.l1, by unfold halfL; rw [List.length_map]; exact h.l3, fun r hr => ?_, h.d⟩
  obtain ⟨x, hx, rfl⟩ := List.mem_map.1 hr
  obtain ⟨⟨b1, b2⟩, ⟨b3, b4⟩, b5⟩ := h.b x hx
  obtain ⟨k1, k2, k3⟩ := half_in b5
  exact ⟨⟨by omega, by omega⟩, ⟨by omega, by omega⟩, k2⟩

end Go.Proofs.YtfcfmpdpjmbcnaaGreatDoor
