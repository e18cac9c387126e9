/- RollPeriodic: the plain law. Nothing of the program. -/
import Derived.Test.YtemihhkbieplmaaIi
set_option linter.unusedVariables false
set_option linter.unusedSimpArgs false
namespace Go.Proofs.Ytemihhkbieplmaa
open Go.RowKit
set_option maxRecDepth 20000

/-- A phase explains all marks. -/
def PerOk (xs : List Int) (ph t r : Int) : Prop := ∀ v ∈ xs, ∃ K w : Int, v = ph + K * r + w ∧ -t ≤ w ∧ w ≤ t
theorem phV_eq {ph t r a v K0 w0 K w : Int} (hr : 4 * t < r) (ha : a = ph + K0 * r + w0) (hv : v = ph + K * r + w) (h1 : -t ≤ w0) (h2 : w0 ≤ t) (h3 : -t ≤ w) (h4 : w ≤ t) : phV t r a v = w - w0 := by
  have e : (v - a) % r = (w - w0) % r := by
    have : v - a = (w - w0) + (K - K0) * r := by rw [hv, ha, Int.sub_mul]; omega
    rw [this, Int.add_mul_emod_self_right]
  unfold phV
  rw [e]
  by_cases h : 0 ≤ w - w0
  · rw [Int.emod_eq_of_lt h (by omega), if_neg (by omega)]
  · have : (w - w0) % r = w - w0 + r := by rw [← Int.add_emod_right]; exact Int.emod_eq_of_lt (by omega) (by omega)
    rw [this, if_pos (by omega)]; omega
structure PerE (xs : List Int) (ph t r K0 w0 : Int) : Prop where
  a : nth xs 0 = ph + K0 * r + w0
  w1 : -t ≤ w0
  w2 : w0 ≤ t
  lo : (phEnd xs t r (allM xs)).1 ≤ -w0
  hi : -w0 ≤ (phEnd xs t r (allM xs)).2
  lo2 : -t ≤ (phEnd xs t r (allM xs)).1
  hi2 : (phEnd xs t r (allM xs)).2 ≤ t
theorem perE {xs : List Int} {ph t r : Int} (hr : 4 * t < r) (h : PerOk xs ph t r) (hn : 0 < xs.length) : ∃ K0 w0, PerE xs ph t r K0 w0 := by
  obtain ⟨K0, w0, ha, h1, h2⟩ := h _ (nth_mem hn)
  refine ⟨K0, w0, ha, h1, h2, eLo.2 ⟨by omega, fun v hv => ?_⟩, eHi.2 ⟨by omega, fun v hv => ?_⟩, (eLo.1 (Int.le_refl _)).1, (eHi.1 (Int.le_refl _)).1⟩
  · obtain ⟨K, w, e, h3, h4⟩ := h v hv
    rw [phV_eq hr ha e h1 h2 h3 h4]; omega
  · obtain ⟨K, w, e, h3, h4⟩ := h v hv
    rw [phV_eq hr ha e h1 h2 h3 h4]; omega
section
variable {xs : List Int} {ph t r K0 w0 : Int}
theorem PerE.ok (h : PerE xs ph t r K0 w0) : phOk xs t r (allM xs) = true := decide_eq_true (Int.le_trans h.lo h.hi)
theorem PerE.rng (h : PerE xs ph t r K0 w0) (ht : 0 ≤ t) (hr : 4 * t < r) : (0 ≤ phLo xs t r (allM xs) ∧ phLo xs t r (allM xs) ≤ r - 1) ∧ phLo xs t r (allM xs) ≤ phHi xs t r (allM xs) ∧ phHi xs t r (allM xs) ≤ phLo xs t r (allM xs) + r - 1 := by
  obtain ⟨_, _, _, h1, h2, h3, h4⟩ := h
  have h5 := Int.emod_nonneg (phA xs (allM xs) + (phEnd xs t r (allM xs)).1) (show r ≠ 0 by omega)
  have h6 := Int.emod_lt_of_pos (phA xs (allM xs) + (phEnd xs t r (allM xs)).1) (show 0 < r by omega)
  unfold phHi phLo
  omega
theorem PerE.mod (h : PerE xs ph t r K0 w0) (hr : 4 * t < r) : (ph - phLo xs t r (allM xs)) % r ≤ phHi xs t r (allM xs) - phLo xs t r (allM xs) := by
  obtain ⟨h0, _, _, h1, h2, h3, h4⟩ := h
  have e : (ph - phLo xs t r (allM xs)) % r = -w0 - (phEnd xs t r (allM xs)).1 := by
    unfold phLo
    rw [phA_all, Int.sub_emod, Int.emod_emod, ← Int.sub_emod, show ph - (nth xs 0 + (phEnd xs t r (allM xs)).1) = (-w0 - (phEnd xs t r (allM xs)).1) + (-K0) * r by rw [h0, Int.neg_mul]; omega, Int.add_mul_emod_self_right]
    exact Int.emod_eq_of_lt (by omega) (by omega)
  rw [e]
  unfold phHi
  omega
/-- Fewer marks have more phases. -/
theorem PerE.sub {ys : List Int} (h : PerE xs ph t r K0 w0) (ht : 0 ≤ t) (hr : 4 * t < r) (hs : ∀ v ∈ ys, v ∈ xs) (h0 : nth ys 0 = nth xs 0) :
    phOk ys t r (allM ys) = true ∧ (phLo ys t r (allM ys) ≤ phHi ys t r (allM ys) ∧ phHi ys t r (allM ys) ≤ phLo ys t r (allM ys) + r - 1) ∧ (phLo xs t r (allM xs) - phLo ys t r (allM ys)) % r + phHi xs t r (allM xs) - phLo xs t r (allM xs) ≤ phHi ys t r (allM ys) - phLo ys t r (allM ys) := by
  obtain ⟨_, _, _, h1, h2, h3, h4⟩ := h
  have f1 : (phEnd ys t r (allM ys)).1 ≤ (phEnd xs t r (allM xs)).1 := eLo.2 ⟨h3, fun v hv => by rw [h0]; exact (eLo.1 (Int.le_refl _)).2 v (hs v hv)⟩
  have f2 : (phEnd xs t r (allM xs)).2 ≤ (phEnd ys t r (allM ys)).2 := eHi.2 ⟨h4, fun v hv => by rw [h0]; exact (eHi.1 (Int.le_refl _)).2 v (hs v hv)⟩
  have f3 : -t ≤ (phEnd ys t r (allM ys)).1 := (eLo.1 (Int.le_refl _)).1
  have f4 : (phEnd ys t r (allM ys)).2 ≤ t := (eHi.1 (Int.le_refl _)).1
  have e : (phLo xs t r (allM xs) - phLo ys t r (allM ys)) % r = (phEnd xs t r (allM xs)).1 - (phEnd ys t r (allM ys)).1 := by
    unfold phLo
    rw [phA_all, phA_all, h0, ← Int.sub_emod, show nth xs 0 + (phEnd xs t r (allM xs)).1 - (nth xs 0 + (phEnd ys t r (allM ys)).1) = (phEnd xs t r (allM xs)).1 - (phEnd ys t r (allM ys)).1 by omega]
    exact Int.emod_eq_of_lt (by omega) (by omega)
  refine ⟨decide_eq_true (by omega), ?_, ?_⟩
  · unfold phHi; omega
  · rw [e]; unfold phHi; omega
end
/-- Marks next to each other miss none. -/
theorem per_mis {ph t r : Int} {w : Nat → Int} {n : Nat} (hn : 0 < n) (ht : 0 ≤ t) (hr : 4 * t < r) (hw : ∀ i, i < n → -t ≤ w i ∧ w i ≤ t) {xs : List Int} (hx : xs = lst (fun i => ph + i * r + w i) n) :
    misL xs t r (phLo xs t r (allM xs)) = [] := by
  have hlen : xs.length = n := by rw [hx, lst_length]
  have hok : PerOk xs ph t r := fun v hv => by
    rw [hx] at hv
    obtain ⟨i, hi, rfl⟩ := List.mem_map.1 hv
    exact ⟨i, w i, rfl, hw i (by simpa using hi)⟩
  have hnx : ∀ i, i < n → nth xs i = ph + i * r + w i := fun i hi => by rw [hx, lst_nth _ hi]
  have h0 := hnx 0 hn
  have hw0 := hw 0 hn
  have hl := hnx (n - 1) (by omega)
  have hwl := hw (n - 1) (by omega)
  obtain ⟨K0, w0, hE⟩ := perE hr hok (by omega)
  have hlo : (phEnd xs t r (allM xs)).1 ≤ -w 0 := eLo.2 ⟨by omega, fun v hv => by
    obtain ⟨K, w', e, h3, h4⟩ := hok v hv
    rw [phV_eq hr h0 e hw0.1 hw0.2 h3 h4]; omega⟩
  have hlo2 := hE.lo2
  have hv : ∀ j, j < n → w j - w 0 - t ≤ (phEnd xs t r (allM xs)).1 := fun j hj => by
    have := (eLo.1 (Int.le_refl (phEnd xs t r (allM xs)).1)).2 _ (nth_mem (l := xs) (k := j) (by omega))
    rw [phV_eq hr h0 (hnx j hj) hw0.1 hw0.2 (hw j hj).1 (hw j hj).2] at this
    exact this
  generalize hE1 : (phEnd xs t r (allM xs)).1 = E1 at *
  have hmn : misN xs r (phLo xs t r (allM xs)) = ph + w 0 + E1 ∧ 0 ≤ E1 ∨ misN xs r (phLo xs t r (allM xs)) = ph + w 0 + E1 + r ∧ E1 < 0 := by
    have e : (phLo xs t r (allM xs) - nth xs 0) % r = E1 % r := by
      unfold phLo
      rw [phA_all, hE1, Int.sub_emod, Int.emod_emod, ← Int.sub_emod]
      congr 1; omega
    unfold misN
    rw [e, h0]
    by_cases h : 0 ≤ E1
    · left; rw [Int.emod_eq_of_lt h (by omega)]; exact ⟨by simp, h⟩
    · right
      rw [← Int.add_emod_right, Int.emod_eq_of_lt (by omega) (by omega)]
      exact ⟨by simp; omega, by omega⟩
  unfold misL misTo
  rw [List.filter_eq_nil_iff]
  intro v hv2
  obtain ⟨k, hk, rfl⟩ := List.mem_map.1 hv2
  have hk := (misCnt_iff (xs := xs) (ph := phLo xs t r (allM xs)) (r := r) (by omega) k).2 (by simpa using hk)
  rw [hlen, hl] at hk
  have hvl := hv (n - 1) (by omega)
  obtain ⟨j, hj, ej⟩ : ∃ j : Nat, j < n ∧ misN xs r (phLo xs t r (allM xs)) + k * r = ph + w 0 + E1 + j * r := by
    have key : ∀ j : Nat, misN xs r (phLo xs t r (allM xs)) + k * r = ph + w 0 + E1 + j * r → j < n := fun j hj => by
      rw [hj] at hk
      rcases Nat.lt_or_ge j n with h | h
      · exact h
      · exfalso
        have h1 : ((n - 1 : Nat) : Int) * r + r ≤ j * r := by
          have : (((n - 1 : Nat) : Int) + 1) * r ≤ j * r := Int.mul_le_mul_of_nonneg_right (by omega) (by omega)
          rwa [Int.add_mul, Int.one_mul] at this
        omega
    rcases hmn with ⟨h1, _⟩ | ⟨h1, _⟩
    · have e : misN xs r (phLo xs t r (allM xs)) + k * r = ph + w 0 + E1 + k * r := by rw [h1]
      exact ⟨k, key k e, e⟩
    · have e : misN xs r (phLo xs t r (allM xs)) + k * r = ph + w 0 + E1 + ((k + 1 : Nat) : Int) * r := by rw [h1, Int.natCast_add, Int.add_mul]; omega
      exact ⟨k + 1, key _ e, e⟩
  have hm := nth_mem (l := xs) (k := j) (by omega)
  have hv3 := hv j hj
  have hwj := hw j hj
  have : (xs.any fun a => inR (a - (misN xs r (phLo xs t r (allM xs)) + k * r)) (-(2 * t)) (2 * t)) = true :=
    List.any_eq_true.2 ⟨_, hm, inR_true.2 (by rw [ej, hnx j hj]; omega)⟩
  simp [misFar, this]
theorem scan_down : ∀ {l : List Int} {last last' i j : Int}, last' ≤ last → (scanM last l i).2 = 0 → (scanM last' l j).2 = 0
  | [], _, _, _, _, _, _ => rfl
  | n :: l, last, last', i, j, hl, h => by
    rw [scanM] at h ⊢
    by_cases he : markE last n = 0
    · rw [if_pos he] at h
      obtain ⟨h1, h2⟩ := markE_ok he
      have he2 : markE last' n = 0 := by
        unfold markE; rw [inR_true.2 h1, decide_eq_true (show last' < n by omega)]; rfl
      rw [if_pos he2]
      exact scan_down (Int.le_refl _) h
    · rw [if_neg he] at h
      exact absurd h he
theorem chk_less {a b : Int} {l : List Int} {t : Int} (h : (chkM (a :: b :: l) t).2 = 0) (hl : 0 < l.length) : (chkM (a :: l) t).2 = 0 := by
  unfold chkM at h
  by_cases h0 : mk0 (a :: b :: l) t = 0
  · rw [if_pos h0, scanM] at h
    obtain ⟨h1, h2⟩ := fst0_cons h0
    obtain ⟨h2, h3⟩ := fst0_cons h2
    have h2 := of_decide_eq_true (unl_ok (by decide) h2)
    have h3 := unl_ok (by decide) (fst0_cons h3).1
    have hm : mk0 (a :: l) t = 0 := by
      unfold mk0
      rw [h3, decide_eq_true (by simp; omega), decide_eq_true (by simp at h2 ⊢; omega)]; rfl
    unfold chkM
    rw [if_pos hm, scanM]
    by_cases he : markE (-1) a = 0
    · rw [if_pos he, scanM] at h
      rw [if_pos he]
      by_cases he2 : markE a b = 0
      · rw [if_pos he2] at h
        exact scan_down (by have := (markE_ok he2).2; omega) h
      · rw [if_neg he2] at h; exact absurd h he2
    · rw [if_neg he] at h; exact absurd h he
  · rw [if_neg h0] at h; exact absurd h h0
/-- Where the marks would lie: behind some of them a circumference is left out. -/
def perAt (r : Int) (g : Bool) (ph : Int) (ws : List Int) : Nat → Int
  | 0 => ph
  | i + 1 => perAt r g ph ws i + r + if (decide (nth ws i % 3 = 0) && g) = true then r else 0
def perW (t : Int) (ws : List Int) (i : Nat) : Int := nth ws i % (2 * t + 1) - t
def perPos (t r : Int) (g : Bool) (ph : Int) (ws : List Int) (i : Nat) : Int := perAt r g ph ws i - t + nth ws i % (2 * t + 1)
def perGap (g : Bool) (ws : List Int) : Nat → Bool
  | 0 => false
  | i + 1 => (decide (nth ws i % 3 = 0) && g) || perGap g ws i
theorem perW_rng {t : Int} (ht : 0 ≤ t) (ws : List Int) (i : Nat) : -t ≤ perW t ws i ∧ perW t ws i ≤ t := by
  have h1 := Int.emod_nonneg (nth ws i) (show 2 * t + 1 ≠ 0 by omega)
  have h2 := Int.emod_lt_of_pos (nth ws i) (show 0 < 2 * t + 1 by omega)
  unfold perW; omega
theorem perAt_mul (r : Int) (g : Bool) (ph : Int) (ws : List Int) : ∀ i, ∃ K : Int, perAt r g ph ws i = ph + K * r
  | 0 => ⟨0, by simp [perAt]⟩
  | i + 1 => by
    obtain ⟨K, h⟩ := perAt_mul r g ph ws i
    unfold perAt
    split
    · exact ⟨K + 2, by rw [h, Int.add_mul]; omega⟩
    · exact ⟨K + 1, by rw [h, Int.add_mul]; omega⟩
theorem perAt_no {r : Int} {g : Bool} {ph : Int} {ws : List Int} : ∀ i, perGap g ws i = false → perAt r g ph ws i = ph + i * r
  | 0, _ => by simp [perAt]
  | i + 1, h => by
    rw [perGap, Bool.or_eq_false_iff] at h
    rw [perAt, perAt_no i h.2, h.1, Int.natCast_add, Int.add_mul]
    simp; omega
theorem perGap_mono {g : Bool} {ws : List Int} {i : Nat} : ∀ n, i ≤ n → perGap g ws n = false → perGap g ws i = false
  | 0, h, h2 => by obtain rfl : i = 0 := by omega
                   exact h2
  | n + 1, h, h2 => by
    by_cases e : i = n + 1
    · subst e; exact h2
    · rw [perGap, Bool.or_eq_false_iff] at h2
      exact perGap_mono n (by omega) h2.2
theorem perAt_bnd {r : Int} {g : Bool} {ph : Int} {ws : List Int} (hr : 0 ≤ r) (hr2 : r ≤ 10000) (hp : 0 ≤ ph) (hp2 : ph ≤ 20000) : ∀ i : Nat, 0 ≤ perAt r g ph ws i ∧ perAt r g ph ws i ≤ 20000 + i * 20000
  | 0 => by simp [perAt]; omega
  | i + 1 => by
    have := perAt_bnd hr hr2 hp hp2 (g := g) (ws := ws) i
    rw [perAt]
    split <;> omega
theorem perPos_ok {t r : Int} {g : Bool} {ph : Int} {ws : List Int} (ht : 0 ≤ t) (n : Nat) : PerOk (lst (perPos t r g ph ws) n) ph t r := fun v hv => by
  obtain ⟨i, hi, rfl⟩ := List.mem_map.1 hv
  obtain ⟨K, h⟩ := perAt_mul r g ph ws i
  exact ⟨K, perW t ws i, by unfold perPos perW; rw [h]; omega, perW_rng ht ws i⟩
theorem perPos_mis {t r : Int} {g : Bool} {ph : Int} {ws : List Int} (ht : 0 ≤ t) (hr : 4 * t < r) {n : Nat} (hn : 0 < n) (hg : perGap g ws n = false) {xs : List Int} (hx : xs = lst (perPos t r g ph ws) n) : misL xs t r (phLo xs t r (allM xs)) = [] := by
  refine per_mis (ph := ph) (w := perW t ws) hn ht hr (fun i _ => perW_rng ht ws i) ?_
  rw [hx]
  unfold lst
  refine List.map_congr_left fun i hi => ?_
  rw [List.mem_range] at hi
  unfold perPos perW
  rw [perAt_no i (perGap_mono n (by omega) hg)]
  omega

end Go.Proofs.Ytemihhkbieplmaa
