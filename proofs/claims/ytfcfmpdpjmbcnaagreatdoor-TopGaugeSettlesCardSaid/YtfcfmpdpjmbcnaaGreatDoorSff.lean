/- Merged: XSa XSb XSc. -/
import Derived.Test.YtfcfmpdpjmbcnaaGreatDoorVi
import Derived.Test.YtfcfmpdpjmbcnaaGreatDoorUa
import Derived.Test.YtfcfmpdpjmbcnaaGreatDoorUv
import Derived.Test.YtfcfmpdpjmbcnaaGreatDoorSe
set_option linter.unusedVariables false
set_option linter.unusedSimpArgs false
/- Runs of a loop as ratios. Nothing of the program. -/
namespace Go.Proofs.YtfcfmpdpjmbcnaaGreatDoor
open Go.RowKit
set_option maxRecDepth 20000

def Ov (D : Int) (K : Nat) (r : Rat) : Prop := ∃ N : Int, r * (D : Rat) = (N : Rat) ∧ N.natAbs ≤ K
theorem Ov.mono {D : Int} {K L : Nat} {r : Rat} (h : Ov D K r) (hl : K ≤ L) : Ov D L r := by
  obtain ⟨N, h1, h2⟩ := h
  exact ⟨N, h1, Nat.le_trans h2 hl⟩
theorem Ov.add {D : Int} {K L : Nat} {r s : Rat} (h : Ov D K r) (g : Ov D L s) : Ov D (K + L) (r + s) := by
  obtain ⟨N, h1, h2⟩ := h
  obtain ⟨M, g1, g2⟩ := g
  refine ⟨N + M, ?_, by omega⟩
  rw [Rat.intCast_add, ← h1, ← g1, Rat.add_mul]
theorem Ov.zero (D : Int) (K : Nat) : Ov D K 0 := ⟨0, by rw [Rat.zero_mul]; rfl, Nat.zero_le _⟩
theorem Ov.int (D n : Int) : Ov D (n.natAbs * D.natAbs) (n : Rat) := ⟨n * D, by rw [Rat.intCast_mul], by rw [Int.natAbs_mul]; exact Nat.le_refl _⟩
theorem castNe {d : Int} (h : d ≠ 0) : (d : Rat) ≠ 0 := fun e => h (by simpa using e)
theorem divInt_mul_cast (c : Int) {d : Int} (h : d ≠ 0) : Rat.divInt c d * (d : Rat) = (c : Rat) := by
  have := castNe h
  rw [Rat.divInt_eq_div]
  grind
theorem Ov.mulc {D den c : Int} {A K : Nat} {r : Rat} (h : Ov D K r) (hc : c.natAbs ≤ A) (hd : den ≠ 0) : Ov (D * den) (A * K) (Rat.divInt c den * r) := by
  obtain ⟨N, h1, h2⟩ := h
  refine ⟨c * N, ?_, by rw [Int.natAbs_mul]; exact Nat.mul_le_mul hc h2⟩
  have h3 := divInt_mul_cast c hd
  rw [Rat.intCast_mul, Rat.intCast_mul, ← h1, ← h3]
  grind
theorem Ov.up {D : Int} {K : Nat} {r : Rat} (h : Ov D K r) (den : Int) : Ov (D * den) (K * den.natAbs) r := by
  obtain ⟨N, h1, h2⟩ := h
  refine ⟨N * den, ?_, by rw [Int.natAbs_mul]; exact Nat.mul_le_mul h2 (Nat.le_refl _)⟩
  rw [Rat.intCast_mul, Rat.intCast_mul, ← h1]
  grind
theorem ov_eq {D N : Int} {r : Rat} (hD : D ≠ 0) (h : r * (D : Rat) = (N : Rat)) : r = Rat.divInt N D := by
  have := castNe hD
  rw [Rat.divInt_eq_div, ← h]
  grind
def frQ (r : Rat) : Fr × Int := bif smQ r then ((r.num, (r.den : Int)), 0) else ((0, 0), 8)
theorem low_divInt {N D : Int} (hD : 0 < D) : low N D = ((Rat.divInt N D).num, ((Rat.divInt N D).den : Int)) := by
  obtain ⟨e1, e2⟩ := ratioMk_pos N hD
  rw [e1, e2]
  unfold low
  rw [Int.tdiv_eq_ediv_of_dvd (Int.gcd_dvd_left ..)]
theorem frcR_eq {N D : Int} (hD : 0 < D) : frcR N D = frQ (Rat.divInt N D) := by
  have h := low_divInt (N := N) hD
  unfold frcR frQ smQ
  rw [h]
  have hd := den_pos (Rat.divInt N D)
  have : inR ((Rat.divInt N D).den : Int) 1 1000000000 = decide (((Rat.divInt N D).den : Int) ≤ 1000000000) := by
    unfold inR
    rw [decide_eq_true (show (1 : Int) ≤ ((Rat.divInt N D).den : Int) by omega), Bool.true_and]
  rw [this]
def tkS (den : Int) (cs : List Int) (d : Int) (st : List Rat) : Nat → Rat
  | 0 => (d : Rat)
  | i + 1 => tkS den cs d st i + Rat.divInt (nth cs i) den * st.getD i 0
def hst (den : Int) (cs : List (List Int)) (dz x : List Int) : Nat → List Rat
  | 0 => x.map fun (a : Int) => (a : Rat)
  | t + 1 => tkS den (cs.getD t []) (nth dz t) (hst den cs dz x t) (cs.getD t []).length :: hst den cs dz x t
def vlt (den : Int) (cs : List (List Int)) (dz x : List Int) (t : Nat) : Rat := tkS den (cs.getD t []) (nth dz t) (hst den cs dz x t) (cs.getD t []).length
theorem hst_succ (den : Int) (cs : List (List Int)) (dz x : List Int) (t : Nat) : hst den cs dz x (t + 1) = vlt den cs dz x t :: hst den cs dz x t := rfl
structure CfOk (n : Nat) (cs : List (List Int)) : Prop where
  l : ∀ t, t < cs.length → (cs.getD t []).length = n
  b : ∀ t i, (nth (cs.getD t []) i).natAbs ≤ 10
def bB : Nat → Nat
  | 0 => 100
  | t + 1 => 100 * 10 ^ (t + 1) + 30 * bB t
theorem bB_mono : ∀ {s t : Nat}, s ≤ t → bB s ≤ bB t := by
  have h1 : ∀ t, bB t ≤ bB (t + 1) := fun t => by show bB t ≤ 100 * 10 ^ (t + 1) + 30 * bB t; omega
  intro s t h
  induction h with
  | refl => exact Nat.le_refl _
  | step _ ih => exact Nat.le_trans ih (h1 _)
theorem tkS_ov {D den d : Int} {K : Nat} {cs : List Int} {st : List Rat} (hd : den ≠ 0) (hs : ∀ i, Ov D K (st.getD i 0)) (hc : ∀ i, (nth cs i).natAbs ≤ 10) : ∀ i, Ov (D * den) (d.natAbs * (D * den).natAbs + i * (10 * K)) (tkS den cs d st i)
  | 0 => (Ov.int (D * den) d).mono (by omega)
  | i + 1 => ((tkS_ov hd hs hc i).add ((hs i).mulc (hc i) hd)).mono (by rw [Nat.add_mul]; omega)
theorem getD_cons_ov {D : Int} {K : Nat} {r : Rat} {st : List Rat} (h : Ov D K r) (hs : ∀ i, Ov D K (st.getD i 0)) : ∀ i, Ov D K ((r :: st).getD i 0)
  | 0 => h
  | i + 1 => hs i
theorem pow_pos {den : Int} (h : 1 ≤ den) : ∀ t : Nat, 0 < den ^ t
  | 0 => by simp
  | t + 1 => by rw [Int.pow_succ]; exact Int.mul_pos (pow_pos h t) (by omega)
theorem pow_le10 {den : Int} (h : 1 ≤ den ∧ den ≤ 10) : ∀ t : Nat, (den ^ t).natAbs ≤ 10 ^ t
  | 0 => by simp
  | t + 1 => by
    rw [Int.pow_succ, Nat.pow_succ, Int.natAbs_mul]
    exact Nat.mul_le_mul (pow_le10 h t) (by omega)
section
variable {den : Int} {cs : List (List Int)} {dz x : List Int}
theorem hst_ov (hd : 1 ≤ den ∧ den ≤ 10) (hx : ∀ i, (nth x i).natAbs ≤ 100) (hds : ∀ t, (nth dz t).natAbs ≤ 100) (h3 : x.length ≤ 3) (hc : CfOk x.length cs) : ∀ t, t ≤ cs.length → ∀ i, Ov (den ^ t) (bB t) ((hst den cs dz x t).getD i 0)
  | 0, _ => fun i => by
    have : (hst den cs dz x 0).getD i 0 = ((nth x i : Int) : Rat) := by
      unfold hst nth
      rw [List.getD_eq_getElem?_getD, List.getD_eq_getElem?_getD, List.getElem?_map]
      cases x[i]? <;> simp
    rw [this]
    exact (Ov.int _ _).mono (by have := hx i; simp [bB]; omega)
  | t + 1, ht => by
    have ih := hst_ov hd hx hds h3 hc t (by omega)
    have hl := hc.l t (by omega)
    rw [hst_succ, Int.pow_succ]
    have hp := pow_le10 hd (t + 1)
    rw [Int.pow_succ] at hp
    refine getD_cons_ov ((tkS_ov (by omega) ih (hc.b t) _).mono ?_) fun i => ((ih i).up den).mono ?_
    · rw [hl]
      have h1 : (nth dz t).natAbs * (den ^ t * den).natAbs ≤ 100 * 10 ^ (t + 1) := Nat.mul_le_mul (hds t) hp
      have h2 : x.length * (10 * bB t) ≤ 3 * (10 * bB t) := Nat.mul_le_mul_right _ h3
      show _ ≤ 100 * 10 ^ (t + 1) + 30 * bB t
      omega
    · have h1 : bB t * den.natAbs ≤ bB t * 10 := Nat.mul_le_mul_left _ (by omega)
      show _ ≤ 100 * 10 ^ (t + 1) + 30 * bB t
      omega
theorem vlt_ov (hd : 1 ≤ den ∧ den ≤ 10) (hx : ∀ i, (nth x i).natAbs ≤ 100) (hds : ∀ t, (nth dz t).natAbs ≤ 100) (h3 : x.length ≤ 3) (hc : CfOk x.length cs) {t : Nat} (ht : t < cs.length) : Ov (den ^ (t + 1)) (bB (t + 1)) (vlt den cs dz x t) := hst_ov hd hx hds h3 hc (t + 1) ht 0
end

end Go.Proofs.YtfcfmpdpjmbcnaaGreatDoor

/- Norms as ratios. Nothing of the program. -/
namespace Go.Proofs.YtfcfmpdpjmbcnaaGreatDoor
open Go.RowKit
set_option maxRecDepth 20000

def nrmR (M : Mx) (w : List Int) (dp : Int) (n : Nat) : Nat → Rat
  | 0 => 0
  | i + 1 => bif decide (nrmR M w dp n i < Rat.divInt (rowS M w i n) (nth w i * dp)) then Rat.divInt (rowS M w i n) (nth w i * dp) else nrmR M w dp n i
abbrev qF (r : Rat) : Fr := (r.num, (r.den : Int))
theorem fLt_qF (p q : Rat) : fLt (qF p) (qF q) = decide (p < q) := by
  unfold fLt
  exact decide_eq_decide.2 (Rat.lt_iff p q).symm
theorem normF_eq {M : Mx} {w : List Int} {dp : Int} {n : Nat} (h : ∀ i, i < n → 0 < nth w i * dp) : ∀ i, i ≤ n → normF M w dp n i = qF (nrmR M w dp n i)
  | 0, _ => rfl
  | i + 1, hi => by
    unfold normF nrmR
    rw [normF_eq h i (by omega), low_divInt (h i (by omega))]
    show (bif fLt (qF (nrmR M w dp n i)) (qF _) then _ else _) = _
    rw [fLt_qF]
    cases decide (nrmR M w dp n i < Rat.divInt (rowS M w i n) (nth w i * dp)) <;> rfl
theorem nrmR_le {M : Mx} {w : List Int} {dp : Int} {n : Nat} : ∀ {i j : Nat}, j < i → Rat.divInt (rowS M w j n) (nth w j * dp) ≤ nrmR M w dp n i
  | i + 1, j, h => by
    unfold nrmR
    by_cases hd : nrmR M w dp n i < Rat.divInt (rowS M w i n) (nth w i * dp)
    · rw [decide_eq_true hd]
      rcases Nat.lt_succ_iff_lt_or_eq.1 h with h | h
      · exact Rat.le_trans (nrmR_le h) (Rat.le_of_lt hd)
      · subst h; exact Rat.le_refl
    · rw [decide_eq_false hd]
      rcases Nat.lt_succ_iff_lt_or_eq.1 h with h | h
      · exact nrmR_le h
      · subst h; exact Rat.not_lt.1 hd
theorem nrmR_nonneg {M : Mx} {w : List Int} {dp : Int} {n : Nat} : ∀ i, 0 ≤ nrmR M w dp n i
  | 0 => Rat.le_refl
  | i + 1 => by
    unfold nrmR
    by_cases hd : nrmR M w dp n i < Rat.divInt (rowS M w i n) (nth w i * dp)
    · rw [decide_eq_true hd]; exact Rat.le_trans (nrmR_nonneg i) (Rat.le_of_lt hd)
    · rw [decide_eq_false hd]; exact nrmR_nonneg i
theorem lt_one_iff (r : Rat) : r < 1 ↔ r.num < (r.den : Int) := by
  rw [Rat.lt_iff]
  show r.num * 1 < 1 * (r.den : Int) ↔ _
  omega

end Go.Proofs.YtfcfmpdpjmbcnaaGreatDoor

/- The response of an exact loop, and its whole numbers. Nothing of the program. -/
namespace Go.Proofs.YtfcfmpdpjmbcnaaGreatDoor
open Go.RowKit
set_option maxRecDepth 20000

theorem getD_out {α : Type} (d : α) {l : List α} {i : Nat} (h : l.length ≤ i) : l.getD i d = d := by rw [List.getD_eq_getElem?_getD, List.getElem?_eq_none h]; rfl
theorem Ov.upk {D : Int} {K : Nat} {r : Rat} (h : Ov D K r) {den : Int} (hd : 1 ≤ den ∧ den ≤ 10) : ∀ k : Nat, Ov (D * den ^ k) (K * 10 ^ k) r
  | 0 => by rw [Int.pow_zero, Int.mul_one, Nat.pow_zero, Nat.mul_one]; exact h
  | k + 1 => by
    rw [Int.pow_succ, ← Int.mul_assoc, Nat.pow_succ, ← Nat.mul_assoc]
    exact ((h.upk hd k).up den).mono (Nat.mul_le_mul_left _ (by omega))
section
variable {den : Int} {c w : List Int} {m : Nat}
def absR (r : Rat) : Rat := bif decide (r < 0) then -r else r
theorem absR_nonneg (r : Rat) : 0 ≤ absR r := by
  unfold absR
  by_cases h : r < 0
  · rw [decide_eq_true h]; show 0 ≤ -r; grind
  · rw [decide_eq_false h]; exact Rat.not_lt.1 h
def wtR (w : List Int) (st : List Rat) : Nat → Rat
  | 0 => 0
  | i + 1 => bif decide (wtR w st i < absR (st.getD i 0) / ((nth w i : Int) : Rat)) then absR (st.getD i 0) / ((nth w i : Int) : Rat) else wtR w st i
theorem wtR_nonneg (w : List Int) (st : List Rat) : ∀ i, 0 ≤ wtR w st i
  | 0 => Rat.le_refl
  | i + 1 => by
    unfold wtR
    by_cases hd : wtR w st i < absR (st.getD i 0) / ((nth w i : Int) : Rat)
    · rw [decide_eq_true hd]; exact Rat.le_trans (wtR_nonneg w st i) (Rat.le_of_lt hd)
    · rw [decide_eq_false hd]; exact wtR_nonneg w st i
theorem wtR_le (w : List Int) (st : List Rat) : ∀ {i j : Nat}, j < i → absR (st.getD j 0) / ((nth w j : Int) : Rat) ≤ wtR w st i
  | i + 1, j, h => by
    unfold wtR
    by_cases hd : wtR w st i < absR (st.getD i 0) / ((nth w i : Int) : Rat)
    · rw [decide_eq_true hd]
      rcases Nat.lt_succ_iff_lt_or_eq.1 h with h | h
      · exact Rat.le_trans (wtR_le w st h) (Rat.le_of_lt hd)
      · subst h; exact Rat.le_refl
    · rw [decide_eq_false hd]
      rcases Nat.lt_succ_iff_lt_or_eq.1 h with h | h
      · exact wtR_le w st h
      · subst h; exact Rat.not_lt.1 hd
theorem wtR_lub (w : List Int) (st : List Rat) {V : Rat} (hV : 0 ≤ V) : ∀ i, (∀ j, j < i → absR (st.getD j 0) / ((nth w j : Int) : Rat) ≤ V) → wtR w st i ≤ V
  | 0, _ => hV
  | i + 1, h => by
    unfold wtR
    cases decide (wtR w st i < absR (st.getD i 0) / ((nth w i : Int) : Rat))
    · exact wtR_lub w st hV i fun j hj => h j (by omega)
    · exact h i (by omega)
theorem absR_mul_nat (r : Rat) {k : Rat} (hk : 0 ≤ k) : absR r * k = absR (r * k) := by
  unfold absR
  by_cases h : r < 0
  · rw [decide_eq_true h]
    by_cases h2 : r * k < 0
    · rw [decide_eq_true h2]; show -r * k = -(r * k); grind
    · rw [decide_eq_false h2]
      show -r * k = r * k
      have h3 : r * k ≤ 0 * k := Rat.mul_le_mul_of_nonneg_right (Rat.le_of_lt h) hk
      rw [Rat.zero_mul] at h3
      have h4 : r * k = 0 := Rat.le_antisymm h3 (Rat.not_lt.1 h2)
      grind
  · rw [decide_eq_false h]
    have h3 : 0 * k ≤ r * k := Rat.mul_le_mul_of_nonneg_right (Rat.not_lt.1 h) hk
    rw [Rat.zero_mul] at h3
    rw [decide_eq_false (Rat.not_lt.2 h3)]; rfl
theorem absR_int (n : Int) : absR (n : Rat) = ((n.natAbs : Int) : Rat) := by
  unfold absR
  by_cases h : n < 0
  · rw [decide_eq_true (show ((n : Int) : Rat) < 0 by exact_mod_cast h)]
    show -((n : Int) : Rat) = _
    rw [← Rat.intCast_neg]
    congr 1
    omega
  · rw [decide_eq_false (show ¬ ((n : Int) : Rat) < 0 by intro h2; exact h (by exact_mod_cast h2))]
    show ((n : Int) : Rat) = _
    congr 1
    omega
theorem pow_cast_pos (hd : 1 ≤ den) (m : Nat) : (0 : Rat) < ((den ^ m : Int) : Rat) := by exact_mod_cast pow_pos hd m
end

end Go.Proofs.YtfcfmpdpjmbcnaaGreatDoor
/- The run of a loop. -/
set_option linter.unusedVariables false
set_option linter.unusedSimpArgs false
namespace Go.Proofs.YtfcfmpdpjmbcnaaGreatDoor
open Go.RowKit
set_option maxRecDepth 20000
set_option maxHeartbeats 8000000

theorem bB8 {t : Nat} (h : t ≤ 8) : bB t ≤ 1000000000000000 := Nat.le_trans (bB_mono h) (by decide)
theorem pow10N {t : Nat} (h : t ≤ 9) : 10 ^ t ≤ 1000000000 := Nat.le_trans (Nat.pow_le_pow_right (by decide) h) (by decide)
theorem pow_rng {den : Int} (h : 1 ≤ den ∧ den ≤ 10) {t : Nat} (ht : t ≤ 9) : 1 ≤ den ^ t ∧ den ^ t ≤ 1000000000 := by
  have h1 := pow_pos h.1 t
  have h2 := Nat.le_trans (pow_le10 h t) (pow10N ht)
  omega
structure RnOk (c : List Rg) (den : Int) (x : List Int) (cs : List (List Int)) (dz : List Int) : Prop where
  lo : LoopOk c den
  xl : x.length = c.length
  xb : ∀ i, (nth x i).natAbs ≤ 100
  cl : cs.length ≤ 8
  cf : CfOk x.length cs
  dl : dz.length = cs.length
  db : ∀ t, (nth dz t).natAbs ≤ 100
theorem any_sized {x : List Int} (h : (!x.any fun n => !inR n (-100) 100) = true) (i : Nat) : (nth x i).natAbs ≤ 100 := by
  by_cases hi : i < x.length
  · have := all_of_any h _ (nth_mem hi)
    have := inR_true.1 this
    omega
  · have : nth x i = 0 := by unfold nth; rw [List.getD_eq_getElem?_getD, List.getElem?_eq_none (by omega)]; rfl
    omega
theorem nth_out {l : List Int} {i : Nat} (h : ¬ i < l.length) : nth l i = 0 := by unfold nth; rw [List.getD_eq_getElem?_getD, List.getElem?_eq_none (by omega)]; rfl
theorem srE_ok {c : List Rg} {den : Int} {x : List Int} {cs : List (List Int)} (h : srE c den x cs = 0) : loE c den = 0 ∧ x.length = c.length ∧ (∀ i, (nth x i).natAbs ≤ 100) ∧ cs.length ≤ 8 ∧ cfE c cs = 0 := by
  unfold srE at h
  by_cases h0 : srH c den x cs = 0
  · rw [h0] at h
    obtain ⟨k1, h2⟩ := fst0_cons h0
    obtain ⟨k2, h3⟩ := fst0_cons h2
    obtain ⟨k3, h4⟩ := fst0_cons h3
    rw [fst0_one] at h4
    have k2 := of_decide_eq_true (unl_ok (by decide) k2)
    have k4 := of_decide_eq_true (unl_ok (by decide) h4)
    exact ⟨k1, by omega, any_sized (unl_ok (by decide) k3), by omega, h⟩
  · rw [beq0f h0] at h; exact absurd h h0
theorem cf_ok {c : List Rg} {den : Int} (hl : LoopOk c den) {cs : List (List Int)} (h : cfE c cs = 0) : CfOk c.length cs := by
  refine ⟨fun t ht => (cfE1_ok (cfE_ok h t ht)).1, fun t i => ?_⟩
  by_cases ht : t < cs.length
  · obtain ⟨h1, h2⟩ := cfE1_ok (cfE_ok h t ht)
    by_cases hi : i < c.length
    · have h3 := h2 i hi
      have h4 := hl.b _ (rg_mem hi)
      omega
    · rw [nth_out (by omega)]; decide
  · rw [getD_out [] (by omega), nth_out (by simp)]; decide
end Go.Proofs.YtfcfmpdpjmbcnaaGreatDoor
