/- Merged: XUs XUc XUd XUt XUv. -/
import Derived.Test.YtfcfmpdpjmbcnaaGreatDoorPb
import Derived.Test.YtfcfmpdpjmbcnaaGreatDoorM9
set_option linter.unusedVariables false
set_option linter.unusedSimpArgs false
/- Fractions in lowest terms, and their spans. -/
namespace Go.Proofs.YtfcfmpdpjmbcnaaGreatDoor
open Go.RowKit
set_option maxRecDepth 20000

abbrev Fr := Int × Int
def fLt (a b : Fr) : Bool := decide (a.1 * b.2 < b.1 * a.2)
theorem low_mul {n d : Int} (h : 0 < d) : 0 < (Int.gcd n d : Int) ∧ n = (Int.gcd n d : Int) * (low n d).1 ∧ d = (Int.gcd n d : Int) * (low n d).2 := by
  have hg : 0 < Int.gcd n d := Int.gcd_pos_of_ne_zero_right n (by omega)
  refine ⟨by omega, ?_, ?_⟩
  · exact (Int.mul_tdiv_cancel' (Int.gcd_dvd_left ..)).symm
  · exact (Int.mul_ediv_cancel' (Int.gcd_dvd_right ..)).symm
theorem low_size {n d : Int} (h : 0 < d) : (low n d).1.natAbs ≤ n.natAbs ∧ 0 < (low n d).2 ∧ (low n d).2 ≤ d := by
  obtain ⟨g, h1, h2⟩ := low_mul (n := n) h
  refine ⟨Int.natAbs_tdiv_le_natAbs n _, ?_, ?_⟩
  · refine Decidable.byContradiction fun hn => ?_
    have : (Int.gcd n d : Int) * (low n d).2 ≤ (Int.gcd n d : Int) * 0 := Int.mul_le_mul_of_nonneg_left (by omega) (by omega)
    omega
  · exact Int.ediv_le_self _ (Int.le_of_lt h)
/-! The exit thickness, and the gap for one. -/
end Go.Proofs.YtfcfmpdpjmbcnaaGreatDoor

/- Loopers: heights after a tick, boxes. Nothing of the program. -/
namespace Go.Proofs.YtfcfmpdpjmbcnaaGreatDoor
open Go.RowKit
set_option maxRecDepth 20000

structure Lp where
  tgt : Int
  num : Int
  den : Int
  dlo : Int
  dhi : Int
  llo : Int
  lhi : Int
structure LpOk (x : Lp) : Prop where
  t : -1000 ≤ x.tgt ∧ x.tgt ≤ 1000
  d1 : -1000 ≤ x.dlo ∧ x.dlo ≤ 1000
  d2 : -1000 ≤ x.dhi ∧ x.dhi ≤ 1000
  l1 : -1000 ≤ x.llo ∧ x.llo ≤ 1000
  l2 : -1000 ≤ x.lhi ∧ x.lhi ≤ 1000
  n : 0 ≤ x.num ∧ x.num ≤ 100
  e : 1 ≤ x.den ∧ x.den ≤ 100
  g : x.num ≤ x.den
  dd : x.dlo ≤ x.dhi
  ll : x.llo ≤ x.lhi
  tt : x.llo ≤ x.tgt ∧ x.tgt ≤ x.lhi
abbrev frC (f : Int × Int) : List DV := [I f.1, I f.2]
abbrev lp0 : Lp := ⟨0, 0, 1, 0, 0, 0, 0⟩
abbrev lpA (L : List Lp) (i : Nat) : Lp := L.getD i lp0
def cor1 (x : Lp) (h : Int) : Int := (x.num * (h - x.tgt)).tdiv x.den
def crr (L : List Lp) (h : Nat → Int) (i : Nat) : Int := bif i == L.length then 0 else cor1 (lpA L i) (h i)
def aft (L : List Lp) (h d : Nat → Int) (i : Nat) : Int := h i - crr L h i + crr L h (i + 1) + d i
theorem lpA_mem {L : List Lp} {i : Nat} (h : i < L.length) : lpA L i ∈ L := by
  show L.getD i lp0 ∈ L
  rw [List.getD_eq_getElem?_getD, List.getElem?_eq_getElem h]; exact List.getElem_mem h
/-! Boxes. -/
abbrev rg0 : Int × Int := (0, 0)
abbrev bLo (B : List (Int × Int)) (i : Nat) : Int := (B.getD i rg0).1
abbrev bHi (B : List (Int × Int)) (i : Nat) : Int := (B.getD i rg0).2
abbrev dLo (L : List Lp) (i : Nat) : Int := (lpA L i).dlo
abbrev dHi (L : List Lp) (i : Nat) : Int := (lpA L i).dhi
def lsR (f : Nat → Int × Int) (n : Nat) : List (Int × Int) := (List.range n).map f
theorem lsR_length (f : Nat → Int × Int) (n : Nat) : (lsR f n).length = n := by simp [lsR]
theorem lsR_succ (f : Nat → Int × Int) (n : Nat) : lsR f (n + 1) = lsR f n ++ [f n] := by simp [lsR, List.range_succ]
theorem lsR_get (f : Nat → Int × Int) {n i : Nat} (h : i < n) : (lsR f n).getD i rg0 = f i := by simp [lsR, h]
def imgA (L : List Lp) (B : List (Int × Int)) (i : Nat) : Int × Int := (aft L (bLo B) (dLo L) i, aft L (bHi B) (dHi L) i)
def hulA (L : List Lp) (B : List (Int × Int)) (i : Nat) : Int × Int := (min (bLo B i) (imgA L B i).1, max (bHi B i) (imgA L B i).2)
def lvA (L : List Lp) (B : List (Int × Int)) (i : Nat) : Bool := decide ((imgA L B i).1 < bLo B i) || decide ((imgA L B i).2 > bHi B i)
def fstI (p : Nat → Bool) : Nat → Int
  | 0 => -1
  | n + 1 => bif decide (0 ≤ fstI p n) then fstI p n else bif p n then (n : Int) else -1
def inL (L : List Lp) (B : List (Int × Int)) (i : Nat) : Bool := inR (bLo B i) (lpA L i).llo (lpA L i).lhi && inR (bHi B i) (lpA L i).llo (lpA L i).lhi
theorem fstI_neg {p : Nat → Bool} : ∀ {n : Nat}, (∀ i, i < n → p i = false) → fstI p n = -1
  | 0, _ => rfl
  | n + 1, h => by
    have ih := fstI_neg fun i hi => h i (Nat.lt_succ_of_lt hi)
    unfold fstI
    rw [ih, h n (Nat.lt_succ_self n)]; rfl
theorem fstI_cases (p : Nat → Bool) : ∀ n : Nat, (fstI p n = -1 ∧ ∀ i, i < n → p i = false) ∨ ∃ k : Nat, k < n ∧ fstI p n = k ∧ p k = true ∧ ∀ i, i < k → p i = false
  | 0 => .inl ⟨rfl, fun i hi => by omega⟩
  | n + 1 => by
    rcases fstI_cases p n with ⟨h1, h2⟩ | ⟨k, h1, h2, h3, h4⟩
    · cases hp : p n
      · refine .inl ⟨?_, fun i hi => ?_⟩
        · unfold fstI; rw [h1, hp]; rfl
        · by_cases e : i = n
          · subst e; exact hp
          · exact h2 i (by omega)
      · exact .inr ⟨n, by omega, by unfold fstI; rw [h1, hp]; rfl, hp, h2⟩
    · exact .inr ⟨k, by omega, by unfold fstI; rw [h2, decide_eq_true (by omega)]; rfl, h3, h4⟩
def boxF (L : List Lp) : Nat → List (Int × Int) → Option (List (Int × Int))
  | 0, _ => none
  | k + 1, B => bif decide (fstI (lvA L B) L.length < 0) then some B else bif decide (fstI (fun i => !inL L (lsR (hulA L B) L.length) i) L.length < 0) then boxF L k (lsR (hulA L B) L.length) else none
end Go.Proofs.YtfcfmpdpjmbcnaaGreatDoor

/- The smallest box that is kept. Nothing of the program. -/
namespace Go.Proofs.YtfcfmpdpjmbcnaaGreatDoor
open Go.RowKit
set_option maxRecDepth 20000

theorem inL_iff {L : List Lp} {B : List (Int × Int)} {i : Nat} : inL L B i = true ↔ ((lpA L i).llo ≤ bLo B i ∧ bLo B i ≤ (lpA L i).lhi) ∧ (lpA L i).llo ≤ bHi B i ∧ bHi B i ≤ (lpA L i).lhi := by
  unfold inL inR
  simp only [Bool.and_eq_true, decide_eq_true_eq]
theorem is_neg {p : Nat → Bool} {n : Nat} (h : fstI p n < 0) : ∀ i, i < n → p i = false := by
  rcases fstI_cases p n with ⟨_, h2⟩ | ⟨k, _, h2, _⟩
  · exact h2
  · omega
structure SameL (L M : List Lp) : Prop where
  len : M.length = L.length
  eq : ∀ i, i < L.length → (lpA M i).tgt = (lpA L i).tgt ∧ (lpA M i).num = (lpA L i).num ∧ (lpA M i).den = (lpA L i).den ∧ (lpA M i).dlo = (lpA L i).dlo ∧ (lpA M i).dhi = (lpA L i).dhi
  wide : ∀ i, i < L.length → (lpA M i).llo ≤ (lpA L i).llo ∧ (lpA L i).lhi ≤ (lpA M i).lhi
theorem SameL.crr {L M : List Lp} (h : SameL L M) (f : Nat → Int) (i : Nat) (hi : i ≤ L.length) : crr M f i = crr L f i := by
  unfold Go.Proofs.YtfcfmpdpjmbcnaaGreatDoor.crr
  rw [h.len]
  by_cases e : i = L.length
  · simp [e]
  · obtain ⟨h1, h2, h3, _⟩ := h.eq i (by omega)
    unfold cor1
    rw [h1, h2, h3]
theorem SameL.img {L M : List Lp} (h : SameL L M) (B : List (Int × Int)) {i : Nat} (hi : i < L.length) : imgA M B i = imgA L B i := by
  obtain ⟨_, _, _, h4, h5⟩ := h.eq i hi
  unfold imgA aft dLo dHi
  rw [h.crr _ i (by omega), h.crr _ i (by omega), h.crr _ (i + 1) (by omega), h.crr _ (i + 1) (by omega), h4, h5]
theorem fstI_congr {p q : Nat → Bool} : ∀ n : Nat, (∀ i, i < n → p i = q i) → fstI p n = fstI q n
  | 0, _ => rfl
  | n + 1, h => by
    unfold fstI
    rw [fstI_congr n fun i hi => h i (by omega), h n (by omega)]
theorem SameL.hul {L M : List Lp} (h : SameL L M) (B : List (Int × Int)) : lsR (hulA M B) M.length = lsR (hulA L B) L.length := by
  unfold lsR
  rw [h.len]
  refine List.map_congr_left fun i hi => ?_
  unfold hulA
  rw [h.img B (List.mem_range.1 hi)]
theorem SameL.box {L M : List Lp} (h : SameL L M) : ∀ (k : Nat) (B R : List (Int × Int)), boxF L k B = some R → boxF M k B = some R
  | 0, _, _, h => by cases h
  | k + 1, B, R, hR => by
    unfold boxF at hR ⊢
    rw [h.hul B]
    have e1 : fstI (lvA M B) M.length = fstI (lvA L B) L.length := by
      rw [h.len]
      refine fstI_congr _ fun i hi => ?_
      unfold lvA
      rw [h.img B hi]
    rw [e1]
    by_cases h1 : fstI (lvA L B) L.length < 0
    · rw [decide_eq_true h1] at hR ⊢
      exact hR
    · rw [decide_eq_false h1] at hR ⊢
      by_cases h2 : fstI (fun i => !inL L (lsR (hulA L B) L.length) i) L.length < 0
      · have h3 := is_neg h2
        have h4 : fstI (fun i => !inL M (lsR (hulA L B) L.length) i) M.length = -1 := fstI_neg fun i hi => by
          rw [h.len] at hi
          have h5 : inL L (lsR (hulA L B) L.length) i = true := by simpa using h3 i hi
          have h6 := inL_iff.1 h5
          have h7 := h.wide i hi
          have : inL M (lsR (hulA L B) L.length) i = true := inL_iff.2 (by omega)
          rw [this]; rfl
        rw [decide_eq_true h2] at hR
        rw [h4]
        exact h.box k _ R hR
      · rw [decide_eq_false h2] at hR
        cases hR

end Go.Proofs.YtfcfmpdpjmbcnaaGreatDoor

/- Matrices of ranges. Nothing of the program. -/
namespace Go.Proofs.YtfcfmpdpjmbcnaaGreatDoor
open Go.RowKit
set_option maxRecDepth 20000

abbrev Rg := Int × Int
def rngM (a b : Rg) : Rg := (min (min (min (a.1 * b.1) (a.1 * b.2)) (a.2 * b.1)) (a.2 * b.2), max (max (max (a.1 * b.1) (a.1 * b.2)) (a.2 * b.1)) (a.2 * b.2))
def sumR (f : Nat → Rg) : Nat → Rg
  | 0 => (0, 0)
  | n + 1 => ((sumR f n).1 + (f n).1, (sumR f n).2 + (f n).2)
abbrev Mx := Nat → Nat → Rg
def mulM (n : Nat) (M O : Mx) : Mx := fun i k => sumR (fun j => rngM (M i j) (O j k)) n
def unM : Mx := fun i j => bif i == j then (1, 1) else (0, 0)
def tkM (c : List Rg) (den : Int) : Mx
  | 0, j => c.getD j rg0
  | i + 1, j => bif i == j then (den, den) else (0, 0)
def powM (c : List Rg) (den : Int) (n : Nat) : Nat → Mx
  | 0 => unM
  | s + 1 => mulM n (tkM c den) (powM c den n s)
def BndM (K : Nat) (M : Mx) : Prop := ∀ i j, (M i j).1.natAbs ≤ K ∧ (M i j).2.natAbs ≤ K
theorem mul_nat {x y : Int} {A B : Nat} (h1 : x.natAbs ≤ A) (h2 : y.natAbs ≤ B) : (x * y).natAbs ≤ A * B := by
  rw [Int.natAbs_mul]; exact Nat.mul_le_mul h1 h2
theorem rngM_bnd {a b : Rg} {A B : Nat} (a1 : a.1.natAbs ≤ A) (a2 : a.2.natAbs ≤ A) (b1 : b.1.natAbs ≤ B) (b2 : b.2.natAbs ≤ B) : (rngM a b).1.natAbs ≤ A * B ∧ (rngM a b).2.natAbs ≤ A * B := by
  have h1 := mul_nat a1 b1
  have h2 := mul_nat a1 b2
  have h3 := mul_nat a2 b1
  have h4 := mul_nat a2 b2
  unfold rngM
  simp only
  omega
theorem sumR_bnd {f : Nat → Rg} {K : Nat} : ∀ {n : Nat}, (∀ j, j < n → (f j).1.natAbs ≤ K ∧ (f j).2.natAbs ≤ K) → (sumR f n).1.natAbs ≤ n * K ∧ (sumR f n).2.natAbs ≤ n * K
  | 0, _ => ⟨Nat.zero_le _, Nat.zero_le _⟩
  | n + 1, h => by
    obtain ⟨i1, i2⟩ := sumR_bnd (n := n) fun j hj => h j (by omega)
    obtain ⟨h1, h2⟩ := h n (by omega)
    have e : (n + 1) * K = n * K + K := Nat.succ_mul n K
    show ((sumR f n).1 + (f n).1).natAbs ≤ _ ∧ ((sumR f n).2 + (f n).2).natAbs ≤ _
    omega
theorem mulM_bnd {n A B : Nat} {M O : Mx} (hM : BndM A M) (hO : BndM B O) : BndM (n * (A * B)) (mulM n M O) := fun i k =>
  sumR_bnd fun j _ => rngM_bnd (hM i j).1 (hM i j).2 (hO j k).1 (hO j k).2
theorem unM_bnd : BndM 1 unM := fun i j => by
  unfold unM
  cases i == j <;> decide
theorem BndM.mono {A B : Nat} {M : Mx} (h : BndM A M) (hAB : A ≤ B) : BndM B M := fun i j => ⟨Nat.le_trans (h i j).1 hAB, Nat.le_trans (h i j).2 hAB⟩
structure LoopOk (c : List Rg) (den : Int) : Prop where
  l1 : 1 ≤ c.length
  l3 : c.length ≤ 3
  b : ∀ r ∈ c, (-10 ≤ r.1 ∧ r.1 ≤ 10) ∧ (-10 ≤ r.2 ∧ r.2 ≤ 10) ∧ r.1 ≤ r.2
  d : 1 ≤ den ∧ den ≤ 10
theorem rg_mem {c : List Rg} {j : Nat} (h : j < c.length) : c.getD j rg0 ∈ c := by
  rw [List.getD_eq_getElem?_getD, List.getElem?_eq_getElem h]; exact List.getElem_mem h
theorem rg_out {c : List Rg} {j : Nat} (h : ¬ j < c.length) : c.getD j rg0 = rg0 := by
  rw [List.getD_eq_getElem?_getD, List.getElem?_eq_none (by omega)]; rfl
theorem tkM_bnd {c : List Rg} {den : Int} (h : LoopOk c den) : BndM 10 (tkM c den) := fun i j => by
  rcases i with _ | i
  · show (c.getD j rg0).1.natAbs ≤ 10 ∧ (c.getD j rg0).2.natAbs ≤ 10
    by_cases hj : j < c.length
    · have := h.b _ (rg_mem hj)
      omega
    · rw [rg_out hj]; decide
  · show (bif i == j then (den, den) else (0, 0)).1.natAbs ≤ 10 ∧ (bif i == j then (den, den) else (0, 0)).2.natAbs ≤ 10
    have := h.d
    cases i == j
    · exact ⟨Nat.zero_le _, Nat.zero_le _⟩
    · show den.natAbs ≤ 10 ∧ den.natAbs ≤ 10
      omega
theorem powM_bnd {c : List Rg} {den : Int} (h : LoopOk c den) : ∀ s, BndM (30 ^ s) (powM c den c.length s)
  | 0 => unM_bnd
  | s + 1 => (mulM_bnd (n := c.length) (tkM_bnd h) (powM_bnd h s)).mono (by
    have h3 := h.l3
    rw [Nat.pow_succ]
    have : c.length * (10 * 30 ^ s) ≤ 3 * (10 * 30 ^ s) := Nat.mul_le_mul_right _ h3
    omega)
theorem pow30 {s : Nat} (h : s ≤ 6) : 30 ^ s ≤ 729000000 := Nat.le_trans (Nat.pow_le_pow_right (by decide) h) (by decide)
def rowS (M : Mx) (w : List Int) (i : Nat) : Nat → Int
  | 0 => 0
  | j + 1 => rowS M w i j + max ((M i j).1.natAbs : Int) ((M i j).2.natAbs : Int) * nth w j
theorem rowS_bnd {M : Mx} {K : Nat} (hM : BndM K M) {w : List Int} (hw : ∀ j, 0 ≤ nth w j ∧ nth w j ≤ 10) (i : Nat) : ∀ j : Nat, 0 ≤ rowS M w i j ∧ rowS M w i j ≤ (j * (K * 10) : Nat)
  | 0 => ⟨Int.le_refl _, by simp [rowS]⟩
  | j + 1 => by
    obtain ⟨h1, h2⟩ := rowS_bnd hM hw i j
    obtain ⟨m1, m2⟩ := hM i j
    obtain ⟨w1, w2⟩ := hw j
    have h3 : max ((M i j).1.natAbs : Int) ((M i j).2.natAbs : Int) * nth w j ≤ K * 10 := Int.mul_le_mul (by omega) w2 w1 (by omega)
    have h4 : 0 ≤ max ((M i j).1.natAbs : Int) ((M i j).2.natAbs : Int) * nth w j := Int.mul_nonneg (by omega) w1
    have e : (((j + 1) * (K * 10) : Nat) : Int) = (j * (K * 10) : Nat) + (K : Int) * 10 := by
      rw [Nat.succ_mul, Int.natCast_add]; congr 1
    show 0 ≤ rowS M w i j + _ ∧ rowS M w i j + _ ≤ _
    rw [e]
    omega
def normF (M : Mx) (w : List Int) (dp : Int) (n : Nat) : Nat → Fr
  | 0 => (0, 1)
  | i + 1 => bif fLt (normF M w dp n i) (low (rowS M w i n) (nth w i * dp)) then low (rowS M w i n) (nth w i * dp) else normF M w dp n i

end Go.Proofs.YtfcfmpdpjmbcnaaGreatDoor

/- Matrices of ranges as lists. Nothing of the program. -/
namespace Go.Proofs.YtfcfmpdpjmbcnaaGreatDoor
open Go.RowKit
set_option maxRecDepth 20000

abbrev Ml := List (List Rg)
abbrev ent (A : Ml) (i j : Nat) : Rg := (A.getD i []).getD j rg0
def Sq (n : Nat) (A : Ml) : Prop := A.length = n ∧ ∀ i, i < n → (A.getD i []).length = n
def mkL (n : Nat) (M : Mx) : Ml := (List.range n).map fun i => lsR (M i) n
theorem mkL_row {n : Nat} (M : Mx) {i : Nat} (h : i < n) : (mkL n M).getD i [] = lsR (M i) n := by
  unfold mkL
  rw [List.getD_eq_getElem?_getD, List.getElem?_map, List.getElem?_range h]; rfl
theorem mkL_sq (n : Nat) (M : Mx) : Sq n (mkL n M) := ⟨by simp [mkL], fun i h => by rw [mkL_row M h, lsR_length]⟩
theorem mkL_ent {n : Nat} (M : Mx) {i j : Nat} (hi : i < n) (hj : j < n) : ent (mkL n M) i j = M i j := by
  show ((mkL n M).getD i []).getD j rg0 = _
  rw [mkL_row M hi, lsR_get _ hj]
theorem lsR_congr {f g : Nat → Int × Int} {n : Nat} (h : ∀ i, i < n → f i = g i) : lsR f n = lsR g n := List.map_congr_left fun i hi => h i (List.mem_range.1 hi)
theorem sumR_congr {f g : Nat → Rg} : ∀ {n : Nat}, (∀ i, i < n → f i = g i) → sumR f n = sumR g n
  | 0, _ => rfl
  | n + 1, h => by
    unfold sumR
    rw [sumR_congr (n := n) fun i hi => h i (by omega), h n (by omega)]
theorem mkL_congr {n : Nat} {M O : Mx} (h : ∀ i j, i < n → j < n → M i j = O i j) : mkL n M = mkL n O :=
  List.map_congr_left fun i hi => lsR_congr fun j hj => h i j (List.mem_range.1 hi) hj
theorem mulM_congr {n : Nat} {M O M' O' : Mx} (h1 : ∀ i j, i < n → j < n → M i j = M' i j) (h2 : ∀ i j, i < n → j < n → O i j = O' i j) : mkL n (mulM n M O) = mkL n (mulM n M' O') :=
  mkL_congr fun i k hi hk => sumR_congr fun j hj => by rw [h1 i j hi hj, h2 j k hj hk]
theorem mul_mkL {n : Nat} (M O : Mx) : mkL n (mulM n (ent (mkL n M)) (ent (mkL n O))) = mkL n (mulM n M O) :=
  mulM_congr (fun _ _ hi hj => mkL_ent M hi hj) fun _ _ hi hj => mkL_ent O hi hj

end Go.Proofs.YtfcfmpdpjmbcnaaGreatDoor
