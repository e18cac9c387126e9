/- Loopers: heights after a tick, boxes. Nothing of the program. -/
import Derived.Test.YtiabcffcbhlbiaaM6
set_option linter.unusedVariables false
set_option linter.unusedSimpArgs false
namespace Go.Proofs.Ytiabcffcbhlbiaa
open Go.RowKit
set_option maxRecDepth 20000

/-- A looper. -/
structure Lp where
  tgt : Int
  num : Int
  den : Int
  dlo : Int
  dhi : Int
  llo : Int
  lhi : Int
/-- A valid looper. -/
structure LpOk (x : Lp) : Prop where
  t : -1000 ≤ x.tgt ∧ x.tgt ≤ 1000
  d1 : -1000 ≤ x.dlo ∧ x.dlo ≤ 1000
  d2 : -1000 ≤ x.dhi ∧ x.dhi ≤ 1000
  l1 : -1000 ≤ x.llo ∧ x.llo ≤ 1000
  l2 : -1000 ≤ x.lhi ∧ x.lhi ≤ 1000
  n : 0 ≤ x.num ∧ x.num ≤ 100
  e : 1 ≤ x.den ∧ x.den ≤ 100
  g : x.num ≤ x.den
  dd : x.dlo ≤ x.dhi
  ll : x.llo ≤ x.lhi
  tt : x.llo ≤ x.tgt ∧ x.tgt ≤ x.lhi
abbrev frC (f : Int × Int) : List DV := [I f.1, I f.2]
abbrev lpC (x : Lp) : List DV := [I x.tgt, I x.num, I x.den, I x.dlo, I x.dhi, I x.llo, I x.lhi]
abbrev lp0 : Lp := ⟨0, 0, 1, 0, 0, 0, 0⟩
abbrev lpA (L : List Lp) (i : Nat) : Lp := L.getD i lp0
def cor1 (x : Lp) (h : Int) : Int := (x.num * (h - x.tgt)).tdiv x.den
/-- The correction of a looper at some heights; 0 after the last one. -/
def crr (L : List Lp) (h : Nat → Int) (i : Nat) : Int := bif i == L.length then 0 else cor1 (lpA L i) (h i)
/-- A height after a tick. -/
def aft (L : List Lp) (h d : Nat → Int) (i : Nat) : Int := h i - crr L h i + crr L h (i + 1) + d i
theorem tdiv_add_le {a n d : Int} (hn : 0 ≤ n) (hd : n ≤ d) (hp : 0 < d) : (a + n).tdiv d ≤ a.tdiv d + 1 ∧ a.tdiv d ≤ (a + n).tdiv d := by
  have h0 := Int.mul_tdiv_add_tmod a d
  have h1 := Int.mul_tdiv_add_tmod (a + n) d
  have hr0 : -d < a.tmod d ∧ a.tmod d < d := ⟨Int.neg_lt_of_neg_lt (by rw [← Int.neg_tmod]; exact Int.tmod_lt_of_pos _ hp), Int.tmod_lt_of_pos _ hp⟩
  have hr1 : -d < (a + n).tmod d ∧ (a + n).tmod d < d := ⟨Int.neg_lt_of_neg_lt (by rw [← Int.neg_tmod]; exact Int.tmod_lt_of_pos _ hp), Int.tmod_lt_of_pos _ hp⟩
  have s0 : 0 ≤ a → 0 ≤ a.tmod d := fun h => Int.tmod_nonneg _ h
  have s1 : 0 ≤ a + n → 0 ≤ (a + n).tmod d := fun h => Int.tmod_nonneg _ h
  have t0 : a ≤ 0 → a.tmod d ≤ 0 := fun h => by have := Int.tmod_nonneg (a := -a) d (by omega); rw [Int.neg_tmod] at this; omega
  have t1 : a + n ≤ 0 → (a + n).tmod d ≤ 0 := fun h => by have := Int.tmod_nonneg (a := -(a + n)) d (by omega); rw [Int.neg_tmod] at this; omega
  generalize a.tmod d = r0 at *
  generalize (a + n).tmod d = r1 at *
  generalize a.tdiv d = q0 at *
  generalize (a + n).tdiv d = q1 at *
  have e : d * (q1 - q0) = n + r0 - r1 := by rw [Int.mul_sub]; omega
  constructor
  · by_cases hq : 2 ≤ q1 - q0
    · have := Int.mul_le_mul_of_nonneg_left hq (Int.le_of_lt hp)
      by_cases ha : 0 ≤ a
      · have := s0 ha; have := s1 (by omega); omega
      · have := t0 (by omega)
        by_cases hb : 0 ≤ a + n
        · have := s1 hb; omega
        · have := t1 (by omega); omega
    · omega
  · by_cases hq : q1 - q0 ≤ -1
    · have := Int.mul_le_mul_of_nonneg_left hq (Int.le_of_lt hp)
      by_cases ha : 0 ≤ a
      · have := s0 ha; have := s1 (by omega); omega
      · have := t0 (by omega)
        by_cases hb : 0 ≤ a + n
        · have := s1 hb
          have c0 : q0 ≤ 0 := by
            by_cases h : 1 ≤ q0
            · have := Int.mul_le_mul_of_nonneg_left h (Int.le_of_lt hp); omega
            · omega
          have c1 : 0 ≤ q1 := by
            by_cases h : q1 ≤ -1
            · have := Int.mul_le_mul_of_nonneg_left h (Int.le_of_lt hp); omega
            · omega
          omega
        · have := t1 (by omega); omega
    · omega
theorem cor1_step {x : Lp} (hx : LpOk x) (h : Int) (k : Nat) : cor1 x (h + k) ≤ cor1 x h + k ∧ cor1 x h ≤ cor1 x (h + k) := by
  induction k with
  | zero => simp
  | succ k ih =>
    have he := hx.e
    have := tdiv_add_le (a := x.num * (h + k - x.tgt)) hx.n.1 hx.g (by omega)
    have e : x.num * (h + k - x.tgt) + x.num = x.num * (h + ((k + 1 : Nat) : Int) - x.tgt) := by
      rw [show h + ((k + 1 : Nat) : Int) - x.tgt = (h + k - x.tgt) + 1 by omega, Int.mul_add, Int.mul_one]
    rw [e] at this
    unfold cor1 at *
    omega
theorem cor1_mono {x : Lp} (hx : LpOk x) {h k : Int} (hk : h ≤ k) : cor1 x h ≤ cor1 x k ∧ h - cor1 x h ≤ k - cor1 x k := by
  have := cor1_step hx h (k - h).toNat
  rw [show h + ((k - h).toNat : Int) = k by omega] at this
  omega
theorem cor1_bnd {x : Lp} (hx : LpOk x) {h : Int} (hh : -2000 ≤ h ∧ h ≤ 2000) : (x.num * (h - x.tgt)).natAbs ≤ 300000 ∧ (cor1 x h).natAbs ≤ 300000 := by
  have h1 := hx.n
  have h2 := hx.t
  have h3 : (x.num * (h - x.tgt)).natAbs ≤ 100 * 3000 := by rw [Int.natAbs_mul]; exact Nat.mul_le_mul (by omega) (by omega)
  have h4 := Int.natAbs_tdiv_le_natAbs (x.num * (h - x.tgt)) x.den
  unfold cor1
  omega
theorem lpA_mem {L : List Lp} {i : Nat} (h : i < L.length) : lpA L i ∈ L := by
  show L.getD i lp0 ∈ L
  rw [List.getD_eq_getElem?_getD, List.getElem?_eq_getElem h]; exact List.getElem_mem h
/-- Greater heights and disturbances never lead to smaller heights. -/
theorem aft_mono {L : List Lp} (hL : ∀ x ∈ L, LpOk x) {h k d e : Nat → Int} {i : Nat} (hi : i < L.length) (h1 : ∀ j, j < L.length → h j ≤ k j) (h2 : d i ≤ e i) : aft L h d i ≤ aft L k e i := by
  have a1 := cor1_mono (hL _ (lpA_mem hi)) (h1 i hi)
  unfold aft crr
  rw [show (i == L.length) = false by simp; omega]
  by_cases hs : i + 1 = L.length
  · rw [show (i + 1 == L.length) = true by simp [hs]]
    simp only [cond_true, cond_false]
    omega
  · have a2 := cor1_mono (hL _ (lpA_mem (show i + 1 < L.length by omega))) (h1 (i + 1) (by omega))
    rw [show (i + 1 == L.length) = false by simp [hs]]
    simp only [cond_false]
    omega
theorem crr_bnd {L : List Lp} (hL : ∀ x ∈ L, LpOk x) {h : Nat → Int} {i : Nat} (hi : i ≤ L.length) (hh : i < L.length → -2000 ≤ h i ∧ h i ≤ 2000) : (crr L h i).natAbs ≤ 300000 := by
  unfold crr
  by_cases e : i = L.length
  · simp [e]
  · rw [show (i == L.length) = false by simp [e]]
    exact (cor1_bnd (hL _ (lpA_mem (by omega))) (hh (by omega))).2
/-! Boxes. -/
abbrev rg0 : Int × Int := (0, 0)
abbrev bLo (B : List (Int × Int)) (i : Nat) : Int := (B.getD i rg0).1
abbrev bHi (B : List (Int × Int)) (i : Nat) : Int := (B.getD i rg0).2
abbrev dLo (L : List Lp) (i : Nat) : Int := (lpA L i).dlo
abbrev dHi (L : List Lp) (i : Nat) : Int := (lpA L i).dhi
def lsR (f : Nat → Int × Int) (n : Nat) : List (Int × Int) := (List.range n).map f
theorem lsR_length (f : Nat → Int × Int) (n : Nat) : (lsR f n).length = n := by simp [lsR]
theorem lsR_succ (f : Nat → Int × Int) (n : Nat) : lsR f (n + 1) = lsR f n ++ [f n] := by simp [lsR, List.range_succ]
theorem lsR_get (f : Nat → Int × Int) {n i : Nat} (h : i < n) : (lsR f n).getD i rg0 = f i := by simp [lsR, h]
def imgA (L : List Lp) (B : List (Int × Int)) (i : Nat) : Int × Int := (aft L (bLo B) (dLo L) i, aft L (bHi B) (dHi L) i)
def hulA (L : List Lp) (B : List (Int × Int)) (i : Nat) : Int × Int := (min (bLo B i) (imgA L B i).1, max (bHi B i) (imgA L B i).2)
/-- Whether the range of a looper leaves a box. -/
def lvA (L : List Lp) (B : List (Int × Int)) (i : Nat) : Bool := decide ((imgA L B i).1 < bLo B i) || decide ((imgA L B i).2 > bHi B i)
/-- The first index below n, from k on, at which p holds, or -1. -/
def fstI (p : Nat → Bool) : Nat → Int
  | 0 => -1
  | n + 1 => bif decide (0 ≤ fstI p n) then fstI p n else bif p n then (n : Int) else -1
def inL (L : List Lp) (B : List (Int × Int)) (i : Nat) : Bool := inR (bLo B i) (lpA L i).llo (lpA L i).lhi && inR (bHi B i) (lpA L i).llo (lpA L i).lhi
theorem fstI_neg {p : Nat → Bool} : ∀ {n : Nat}, (∀ i, i < n → p i = false) → fstI p n = -1
  | 0, _ => rfl
  | n + 1, h => by
    have ih := fstI_neg fun i hi => h i (Nat.lt_succ_of_lt hi)
    unfold fstI
    rw [ih, h n (Nat.lt_succ_self n)]; rfl
theorem fstI_pos {p : Nat → Bool} : ∀ {n k : Nat}, k < n → p k = true → (∀ i, i < k → p i = false) → fstI p n = k
  | n + 1, k, hk, h1, h2 => by
    unfold fstI
    by_cases e : k = n
    · subst e
      rw [fstI_neg h2, h1]; rfl
    · rw [fstI_pos (show k < n by omega) h1 h2, decide_eq_true (by omega)]; rfl
theorem fstI_cases (p : Nat → Bool) : ∀ n : Nat, (fstI p n = -1 ∧ ∀ i, i < n → p i = false) ∨ ∃ k : Nat, k < n ∧ fstI p n = k ∧ p k = true ∧ ∀ i, i < k → p i = false
  | 0 => .inl ⟨rfl, fun i hi => by omega⟩
  | n + 1 => by
    rcases fstI_cases p n with ⟨h1, h2⟩ | ⟨k, h1, h2, h3, h4⟩
    · cases hp : p n
      · refine .inl ⟨?_, fun i hi => ?_⟩
        · unfold fstI; rw [h1, hp]; rfl
        · by_cases e : i = n
          · subst e; exact hp
          · exact h2 i (by omega)
      · exact .inr ⟨n, by omega, by unfold fstI; rw [h1, hp]; rfl, hp, h2⟩
    · exact .inr ⟨k, by omega, by unfold fstI; rw [h2, decide_eq_true (by omega)]; rfl, h3, h4⟩
/-- The smallest box that is kept, within so many ticks. -/
def boxF (L : List Lp) : Nat → List (Int × Int) → Option (List (Int × Int))
  | 0, _ => none
  | k + 1, B => bif decide (fstI (lvA L B) L.length < 0) then some B else bif decide (fstI (fun i => !inL L (lsR (hulA L B) L.length) i) L.length < 0) then boxF L k (lsR (hulA L B) L.length) else none
/-- How much a box can grow yet. -/
def rmA (L : List Lp) (B : List (Int × Int)) : Nat → Nat
  | 0 => 0
  | n + 1 => rmA L B n + ((lpA L n).lhi - (lpA L n).llo - (bHi B n - bLo B n)).toNat
theorem rmA_le {L : List Lp} {B : List (Int × Int)} (hL : ∀ x ∈ L, LpOk x) (hB : ∀ i, i < L.length → bLo B i ≤ bHi B i) : ∀ n, n ≤ L.length → rmA L B n ≤ n * 2000
  | 0, _ => Nat.le_refl _
  | n + 1, h => by
    have := rmA_le hL hB n (by omega)
    have hx := hL _ (lpA_mem (show n < L.length by omega))
    have h1 := hx.l1
    have h2 := hx.l2
    have h3 := hB n (by omega)
    show rmA L B n + _ ≤ _
    omega
theorem rmA_lt {L : List Lp} {B : List (Int × Int)} (hl : ∀ i, i < L.length → inL L (lsR (hulA L B) L.length) i = true) {k : Nat} (hk : lvA L B k = true) : ∀ n, n ≤ L.length → rmA L (lsR (hulA L B) L.length) n ≤ rmA L B n ∧ (k < n → rmA L (lsR (hulA L B) L.length) n < rmA L B n)
  | 0, _ => ⟨Nat.le_refl _, fun h => absurd h (Nat.not_lt_zero k)⟩
  | n + 1, h => by
    obtain ⟨i1, i2⟩ := rmA_lt hl hk n (by omega)
    have h1 := hl n (by omega)
    unfold inL inR at h1
    have e : (lsR (hulA L B) L.length).getD n rg0 = hulA L B n := lsR_get _ (by omega)
    simp only [bLo, bHi, e, Bool.and_eq_true, decide_eq_true_eq] at h1
    have s1 : rmA L (lsR (hulA L B) L.length) (n + 1) = rmA L (lsR (hulA L B) L.length) n + ((lpA L n).lhi - (lpA L n).llo - ((hulA L B n).2 - (hulA L B n).1)).toNat := by
      show _ + ((lpA L n).lhi - (lpA L n).llo - (bHi (lsR (hulA L B) L.length) n - bLo (lsR (hulA L B) L.length) n)).toNat = _
      simp only [bLo, bHi, e]
    have s2 : rmA L B (n + 1) = rmA L B n + ((lpA L n).lhi - (lpA L n).llo - (bHi B n - bLo B n)).toNat := rfl
    rw [s1, s2]
    have e3 : (hulA L B n).1 = min (bLo B n) (imgA L B n).1 := rfl
    have e4 : (hulA L B n).2 = max (bHi B n) (imgA L B n).2 := rfl
    rw [e3, e4] at h1 ⊢
    refine ⟨by omega, fun hkn => ?_⟩
    by_cases e2 : k = n
    · subst e2
      unfold lvA at hk
      simp only [Bool.or_eq_true, decide_eq_true_eq] at hk
      omega
    · have := i2 (by omega)
      omega

end Go.Proofs.Ytiabcffcbhlbiaa
