/- Sets of marks that contradict: without any one of them there is a phase. Nothing of the program. -/
import Derived.Test.YtemihhkbieplmaaId
set_option linter.unusedVariables false
set_option linter.unusedSimpArgs false
namespace Go.Proofs.Ytemihhkbieplmaa
open Go.RowKit
set_option maxRecDepth 20000

/-- The step of the range, by the mark's position. -/
def stepV (t r a : Int) (p : Int × Int) (v : Int) : Int × Int := (max p.1 (phV t r a v - t), min p.2 (phV t r a v + t))
theorem fold_map (xs : List Int) (t r a : Int) : ∀ (l : List Int) (p : Int × Int), l.foldl (phStep xs t r a) p = (l.map fun i => nth xs i.toNat).foldl (stepV t r a) p
  | [], _ => rfl
  | i :: l, p => fold_map xs t r a l _
theorem map_allM (ys : List Int) : (allM ys).map (fun i => nth ys i.toNat) = ys := by
  unfold allM lst
  rw [List.map_map]
  have : ((fun i : Int => nth ys i.toNat) ∘ fun (i : Nat) => (i : Int)) = fun i => ys.getD i 0 := by
    funext i; show nth ys ((i : Int)).toNat = _; rw [Int.toNat_natCast]; rfl
  rw [this]
  apply List.ext_getElem
  · simp
  · intro i h1 h2
    simp [h2]
/-- The phases of some marks: those of their positions. -/
theorem phOk_map {xs : List Int} {t r k : Int} {l : List Int} : phOk ((k :: l).map fun i => nth xs i.toNat) t r (allM ((k :: l).map fun i => nth xs i.toNat)) = phOk xs t r (k :: l) := by
  have e : phEnd ((k :: l).map fun i => nth xs i.toNat) t r (allM ((k :: l).map fun i => nth xs i.toNat)) = phEnd xs t r (k :: l) := by
    unfold phEnd phAcc
    rw [List.take_of_length_le (Nat.le_refl _), List.take_of_length_le (Nat.le_refl _), fold_map, fold_map, map_allM, phA_all]
    rfl
  unfold phOk
  rw [e]
theorem nth_mono {xs : List Int} {t : Int} (h : MarksOk xs t) : ∀ {i j : Nat}, i < j → j < xs.length → nth xs i < nth xs j := by
  intro i j hij hj
  induction j with
  | zero => omega
  | succ j ih =>
    have h1 := h.inc j hj
    by_cases e : i = j
    · subst e; exact h1
    · have := ih (by omega) (by omega); omega
theorem scan_rise {xs : List Int} {t : Int} (h : MarksOk xs t) : ∀ {n : Nat} {l : List Int} {last i : Int}, Rise xs.length n l → (∀ j, n ≤ j → j < xs.length → last < nth xs j) → (scanM last (l.map fun i => nth xs i.toNat) i).2 = 0 := by
  intro n l last i hr
  induction hr generalizing last i with
  | nil => intro _; rfl
  | cons k h1 h2 _ ih =>
    intro hl
    have hk := h.rng _ (nth_mem h2)
    have he : markE last (nth xs k) = 0 := by
      unfold markE; rw [inR_true.2 hk, decide_eq_true (hl k h1 h2)]; rfl
    rw [List.map_cons, scanM, Int.toNat_natCast, if_pos he]
    exact ih fun j hj hj2 => nth_mono h (by omega) hj2
theorem rise_len {cnt : Nat} : ∀ {n : Nat} {s : List Int}, Rise cnt n s → s.length ≤ cnt - n := by
  intro n s hr
  induction hr with
  | nil => simp
  | cons k h1 h2 _ ih => simp; omega
theorem chk_rise {xs : List Int} {t : Int} (h : MarksOk xs t) {l : List Int} (hr : Rise xs.length 0 l) (h2 : 2 ≤ l.length) : (chkM (l.map fun i => nth xs i.toNat) t).2 = 0 := by
  obtain ⟨k1, k2, k3, k4, k5, _⟩ := id h
  have hl := rise_len hr
  have hm : mk0 (l.map fun i => nth xs i.toNat) t = 0 := by
    unfold mk0
    rw [List.length_map, decide_eq_true (by omega), decide_eq_true (by omega), inR_true.2 ⟨k3, k4⟩]; rfl
  unfold chkM
  rw [if_pos hm]
  refine scan_rise h hr fun j _ hj => ?_
  have := k5 _ (nth_mem hj); omega
/-- What the phases of the marks of a rising set answer. -/
theorem phE_rise {xs : List Int} {t r : Int} (h : MarksOk xs t) (hrn : rndErr t r = 0) {l : List Int} (hr : Rise xs.length 0 l) (h2 : 2 ≤ l.length) : phE (l.map fun i => nth xs i.toNat) t r = if phOk xs t r l = true then 0 else 12 := by
  have hc := chk_rise h hr h2
  obtain ⟨k, m, rfl⟩ : ∃ k m, l = k :: m := by
    cases l with
    | nil => simp at h2
    | cons k m => exact ⟨k, m, rfl⟩
  unfold phE
  rw [hc, hrn, phOk_map]
  cases phOk xs t r (k :: m) <;> rfl
/-- The marks of a set without the one ahead of number s. -/
def selI (S : List Int) (s i : Nat) : List Int := ((List.range i).filter fun j => !(j + 1 == s)).map fun j => nth S j
theorem selI_succ (S : List Int) (s i : Nat) : selI S s (i + 1) = selI S s i ++ if (!(i + 1 == s)) = true then [nth S i] else [] := by
  unfold selI
  rw [List.range_succ, List.filter_append, List.map_append]
  congr 1
  simp only [List.filter_cons, List.filter_nil]
  split <;> rfl
theorem selI_len (S : List Int) (s i : Nat) : (selI S s i).length ≤ i := by
  unfold selI
  rw [List.length_map]
  exact Nat.le_trans (List.length_filter_le _ _) (by simp)
/-- A set that contradicts: without any one of its marks there is a phase. -/
structure CtrOk (xs : List Int) (t r : Int) (S : List Int) : Prop where
  len2 : 2 ≤ S.length
  lenn : S.length ≤ xs.length
  len3 : S.length ≤ 3
  rng : ∀ i, i < S.length → 0 ≤ nth S i ∧ nth S i < xs.length
  inc : ∀ i, i + 1 < S.length → nth S i < nth S (i + 1)
  phs : ∀ s, s ≤ S.length → 2 ≤ (selI S s S.length).length → phE ((selI S s S.length).map fun i => nth xs i.toNat) t r = if s = 0 then 12 else 0
theorem find_mem {α : Type} {p : α → Bool} {L : List α} {x : α} (h : L.find? p = some x) : x ∈ L ∧ p x = true := ⟨List.mem_of_find?_eq_some h, List.find?_some h⟩
theorem ctr_ok {xs : List Int} {t r : Int} (h : MarksOk xs t) (hrn : rndErr t r = 0) {S : List Int} (hS : ctrS xs t r = some S) : CtrOk xs t r S := by
  cases h2 : ctrN xs t r 2 with
  | some l =>
    have e : l = S := by unfold ctrS at hS; rw [h2] at hS; simpa using hS
    subst e
    obtain ⟨h3, h4⟩ := find_mem h2
    have hn : phOk xs t r l = false := by simpa using h4
    obtain ⟨s, rfl, h5, h6⟩ := grw_mem.1 h3
    cases h6 with
    | nil => simp at h5
    | cons i a1 a2 hr =>
      cases hr with
      | nil => simp at h5
      | cons j b1 b2 hr =>
        cases hr with
        | cons k c1 c2 hr => simp at h5
        | nil =>
          refine ⟨by simp, by simp; omega, by simp, fun q hq => ?_, fun q hq => ?_, fun s hs hl => ?_⟩
          · simp at hq
            rcases (show q = 0 ∨ q = 1 by omega) with rfl | rfl
            · show 0 ≤ (i : Int) ∧ (i : Int) < _; omega
            · show 0 ≤ (j : Int) ∧ (j : Int) < _; omega
          · simp at hq
            obtain rfl : q = 0 := by omega
            show (i : Int) < (j : Int); omega
          · simp at hs
            rcases (show s = 0 ∨ s = 1 ∨ s = 2 by omega) with rfl | rfl | rfl
            · have := phE_rise h hrn (l := [(i : Int), (j : Int)]) (.cons i a1 a2 (.cons j b1 b2 (.nil _))) (by simp)
              rw [hn] at this
              exact this
            · exact absurd hl (by show ¬ 2 ≤ 1; omega)
            · exact absurd hl (by show ¬ 2 ≤ 1; omega)
  | none =>
    have h3 : ctrN xs t r 3 = some S := by unfold ctrS at hS; rw [h2] at hS; simpa using hS
    obtain ⟨h3, h4⟩ := find_mem h3
    have hn : phOk xs t r S = false := by simpa using h4
    obtain ⟨s, rfl, h5, h6⟩ := grw_mem.1 h3
    have hp : ∀ l ∈ grw xs.length 2 [] 0, phOk xs t r l = true := fun l hl => by
      unfold ctrN at h2
      rw [List.find?_eq_none] at h2
      have := h2 l hl
      simpa using this
    cases h6 with
    | nil => simp at h5
    | cons i a1 a2 hr =>
      cases hr with
      | nil => simp at h5
      | cons j b1 b2 hr =>
        cases hr with
        | nil => simp at h5
        | cons k c1 c2 hr =>
          cases hr with
          | cons q d1 d2 hr => simp at h5
          | nil =>
            have rij : Rise xs.length 0 [(i : Int), (j : Int)] := .cons i a1 a2 (.cons j b1 b2 (.nil _))
            have rik : Rise xs.length 0 [(i : Int), (k : Int)] := .cons i a1 a2 (.cons k (by omega) c2 (.nil _))
            have rjk : Rise xs.length 0 [(j : Int), (k : Int)] := .cons j (by omega) b2 (.cons k c1 c2 (.nil _))
            refine ⟨by simp, by simp; omega, by simp, fun q hq => ?_, fun q hq => ?_, fun s hs hl => ?_⟩
            · simp at hq
              rcases (show q = 0 ∨ q = 1 ∨ q = 2 by omega) with rfl | rfl | rfl
              · show 0 ≤ (i : Int) ∧ (i : Int) < _; omega
              · show 0 ≤ (j : Int) ∧ (j : Int) < _; omega
              · show 0 ≤ (k : Int) ∧ (k : Int) < _; omega
            · simp at hq
              rcases (show q = 0 ∨ q = 1 by omega) with rfl | rfl
              · show (i : Int) < (j : Int); omega
              · show (j : Int) < (k : Int); omega
            · simp at hs
              rcases (show s = 0 ∨ s = 1 ∨ s = 2 ∨ s = 3 by omega) with rfl | rfl | rfl | rfl
              · have := phE_rise h hrn (l := [(i : Int), (j : Int), (k : Int)]) (.cons i a1 a2 (.cons j b1 b2 (.cons k c1 c2 (.nil _)))) (by simp)
                rw [hn] at this
                exact this
              · have := phE_rise h hrn rjk (by simp)
                rw [hp [(j : Int), (k : Int)] (grw_mem.2 ⟨_, rfl, rfl, rjk⟩)] at this
                exact this
              · have := phE_rise h hrn rik (by simp)
                rw [hp [(i : Int), (k : Int)] (grw_mem.2 ⟨_, rfl, rfl, rik⟩)] at this
                exact this
              · have := phE_rise h hrn rij (by simp)
                rw [hp [(i : Int), (j : Int)] (grw_mem.2 ⟨_, rfl, rfl, rij⟩)] at this
                exact this

end Go.Proofs.Ytemihhkbieplmaa
