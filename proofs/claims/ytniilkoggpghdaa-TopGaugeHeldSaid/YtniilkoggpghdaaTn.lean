/- Chains with wider limits. Nothing of the program. -/
import Derived.Test.YtniilkoggpghdaaTj
set_option linter.unusedVariables false
set_option linter.unusedSimpArgs false
namespace Go.Proofs.Ytniilkoggpghdaa
open Go.RowKit
set_option maxRecDepth 20000

/-- A looper with the widest limits. -/
def wdP (x : Lp) : Lp := ⟨x.tgt, x.num, x.den, x.dlo, x.dhi, -1000, 1000⟩
/-- A chain whose first loopers have the widest limits. -/
def wdL (L : List Lp) (k : Nat) : List Lp := (List.range L.length).map fun q => bif decide (q < k) then wdP (L.getD q lp0) else L.getD q lp0
theorem wdL_len (L : List Lp) (k : Nat) : (wdL L k).length = L.length := by simp [wdL]
theorem wdL_at (L : List Lp) (k : Nat) {i : Nat} (h : i < L.length) : (wdL L k).getD i lp0 = bif decide (i < k) then wdP (L.getD i lp0) else L.getD i lp0 := by
  unfold wdL
  rw [List.getD_eq_getElem?_getD, List.getElem?_map, List.getElem?_range h]; rfl
theorem wdL_zero (L : List Lp) : wdL L 0 = L := by
  refine List.ext_getElem (wdL_len L 0) fun i h1 h2 => ?_
  simp [wdL, h2]
theorem wdL_get {L : List Lp} {k : Nat} (h : k < L.length) : (wdL L k).getD k lp0 = L.getD k lp0 := by
  rw [wdL_at L k h, decide_eq_false (Nat.lt_irrefl k)]; rfl
theorem wdL_set {L : List Lp} {k : Nat} (h : k < L.length) : (wdL L k).set k (wdP (L.getD k lp0)) = wdL L (k + 1) := by
  refine List.ext_getElem (by simp [wdL]) fun i h1 h2 => ?_
  have hi : i < L.length := by simpa [wdL] using h2
  rw [List.getElem_set]
  simp only [wdL, List.getElem_map, List.getElem_range]
  by_cases e : k = i
  · subst e; simp
  · rw [if_neg e]
    by_cases hq : i < k
    · rw [decide_eq_true hq, decide_eq_true (by omega)]
    · rw [decide_eq_false hq, decide_eq_false (by omega)]
theorem wd_same (L : List Lp) (hL : ∀ x ∈ L, LpOk x) : SameL L (wdL L L.length) := ⟨wdL_len _ _, fun i hi => by
  have e : lpA (wdL L L.length) i = wdP (lpA L i) := by
    show (wdL L L.length).getD i lp0 = _
    rw [wdL_at L _ hi, decide_eq_true hi]; rfl
  rw [e]
  exact ⟨rfl, rfl, rfl, rfl, rfl⟩, fun i hi => by
  have e : lpA (wdL L L.length) i = wdP (lpA L i) := by
    show (wdL L L.length).getD i lp0 = _
    rw [wdL_at L _ hi, decide_eq_true hi]; rfl
  rw [e]
  have hx := hL _ (lpA_mem hi)
  exact ⟨hx.l1.1, hx.l2.2⟩⟩
theorem lpE_zero {x : Lp} (h : LpOk x) : lpE x = 0 := by
  have h1 : lpR x = true := by
    unfold lpR
    have e1 := inR_true.2 h.t
    have e2 := inR_true.2 h.d1
    have e3 := inR_true.2 h.d2
    have e4 := inR_true.2 h.l1
    have e5 := inR_true.2 h.l2
    simp only [List.any_cons, List.any_nil, e1, e2, e3, e4, e5, inR_true.2 h.n, inR_true.2 h.e]; rfl
  unfold lpE
  rw [h1, decide_eq_true h.g, decide_eq_true h.dd, decide_eq_true h.ll, inR_true.2 h.tt]; rfl
theorem lpsE_zero : ∀ {L : List Lp} {k : Nat}, (∀ x ∈ L, LpOk x) → lpsE L k = (0, 0)
  | [], _, _ => rfl
  | x :: L, k, h => by
    unfold lpsE
    rw [lpE_zero (h x (by simp))]
    exact lpsE_zero fun y hy => h y (by simp [hy])
theorem chE_zero {L : List Lp} (h0 : 0 < L.length) (h5 : L.length ≤ 5) (h : ∀ x ∈ L, LpOk x) : (chE L).2 = 0 := by
  have e : chE L = lpsE L 0 := by unfold chE; rw [decide_eq_true (by omega), decide_eq_true (by omega)]; rfl
  rw [e, lpsE_zero h]
theorem wd_ok {L : List Lp} (hL : ∀ x ∈ L, LpOk x) : ∀ x ∈ wdL L L.length, LpOk x := fun x hx => by
  obtain ⟨q, hq, rfl⟩ := List.mem_map.1 hx
  rw [List.mem_range] at hq
  rw [decide_eq_true hq]
  have h := hL _ (lpA_mem hq)
  have h1 := h.tt
  have h2 := h.l1
  have h3 := h.l2
  exact ⟨h.t, h.d1, h.d2, ⟨by show (-1000 : Int) ≤ -1000; decide, by show (-1000 : Int) ≤ 1000; decide⟩, ⟨by show (-1000 : Int) ≤ 1000; decide, by show (1000 : Int) ≤ 1000; decide⟩, h.n, h.e, h.g, h.dd, by show (-1000 : Int) ≤ 1000; decide, h.t⟩
theorem boxF_more {L : List Lp} : ∀ (k j : Nat) (B R : List (Int × Int)), boxF L k B = some R → boxF L (k + j) B = some R
  | 0, _, _, _, h => by cases h
  | k + 1, j, B, R, h => by
    rw [show k + 1 + j = (k + j) + 1 by omega]
    unfold boxF at h ⊢
    by_cases h1 : fstI (lvA L B) L.length < 0
    · rw [decide_eq_true h1] at h ⊢
      exact h
    · rw [decide_eq_false h1] at h ⊢
      by_cases h2 : fstI (fun i => !inL L (lsR (hulA L B) L.length) i) L.length < 0
      · rw [decide_eq_true h2] at h ⊢
        exact boxF_more k j _ R h
      · rw [decide_eq_false h2] at h
        cases h
theorem rmA_wide {L M : List Lp} (h : SameL L M) (B : List (Int × Int)) : ∀ n, n ≤ L.length → rmA L B n ≤ rmA M B n
  | 0, _ => Nat.le_refl _
  | n + 1, hn => by
    have ih := rmA_wide h B n (by omega)
    have hw := h.wide n (by omega)
    show rmA L B n + _ ≤ rmA M B n + _
    omega
/-- A chain with the widest limits has the same box. -/
theorem bxR_wide {L : List Lp} {xs : List Int} {D : List (Int × Int)} (hL : ∀ x ∈ L, LpOk x) (hl : xs.length = L.length) (hs : stL L xs L.length = true) (h : bxR L xs = (rgV D, 0)) : bxR (wdL L L.length) xs = (rgV D, 0) := by
  have hM := wd_same L hL
  have hst : stL (wdL L L.length) xs (wdL L L.length).length = true := stL_get.2 fun k hk => by
    rw [hM.len] at hk
    have h1 := stL_get.1 hs k hk
    have h2 := hM.wide k hk
    omega
  have h0 : bxR L xs = bxM (boxF L (rmA L (stB xs) L.length + 1) (stB xs)) := by unfold bxR; rw [hs]; rfl
  rw [h0] at h
  cases hb : boxF L (rmA L (stB xs) L.length + 1) (stB xs) with
  | none =>
    rw [hb] at h
    exact absurd (show (12 : Int) = 0 from congrArg Prod.snd h) (by decide)
  | some R =>
    rw [hb] at h
    have h1 := hM.box _ _ _ hb
    have hw := rmA_wide hM (stB xs) L.length (Nat.le_refl _)
    obtain ⟨j, hj⟩ : ∃ j, rmA (wdL L L.length) (stB xs) (wdL L L.length).length + 1 = rmA L (stB xs) L.length + 1 + j := ⟨rmA (wdL L L.length) (stB xs) L.length - rmA L (stB xs) L.length, by rw [hM.len]; omega⟩
    have h2 := boxF_more _ j _ _ h1
    rw [← hj] at h2
    unfold bxR
    rw [hst, h2]
    exact h

end Go.Proofs.Ytniilkoggpghdaa
