/- The law FlatBest: what it answers. -/
import Derived.Test.YtagpmpbmfjaiiaaGreatDoorTe
import Derived.Test.YtagpmpbmfjaiiaaGreatDoorTa
set_option linter.unusedVariables false
set_option linter.unusedSimpArgs false
namespace Go.Proofs.YtagpmpbmfjaiiaaGreatDoor
open Go.RowKit
set_option maxRecDepth 20000
set_option maxHeartbeats 8000000

theorem bst_some (f : List Int → Int) (b : List Int) (n : Int) (N : List Int) : bst f (some (b, n)) N = if f N < n then some (N, f N) else some (b, n) := by
  show (bif decide (f N < n) then _ else _) = _
  by_cases h : f N < n
  · rw [decide_eq_true h, if_pos h]; rfl
  · rw [decide_eq_false h, if_neg h]; rfl
theorem getL_mem {L : List (List Int)} {k : Nat} (h : k < L.length) : L.getD k [] ∈ L := by
  rw [List.getD_eq_getElem?_getD, List.getElem?_eq_getElem h]; exact List.getElem_mem h
/-- The best of some settings is one of them. -/
theorem bstK_mem (f : List Int → Int) (L : List (List Int)) : ∀ k, k ≤ L.length → ∀ b n, bstK f L k = some (b, n) → b ∈ L ∧ n = f b ∧ ∀ i, i < k → n ≤ f (L.getD i [])
  | 0, _, b, n, h => by simp [bstK] at h
  | k + 1, hk, b, n, h => by
    rw [bstK_succ f (by omega) rfl] at h
    have hm := getL_mem (L := L) (k := k) (by omega)
    cases hy : bstK f L k with
    | none =>
      rw [hy] at h
      have h : some (L.getD k [], f (L.getD k [])) = some (b, n) := h
      injection h with h; injection h with h1 h2
      subst h1 h2
      refine ⟨hm, rfl, fun i hi => ?_⟩
      have : k = 0 := by
        rcases k with _ | k
        · rfl
        · exfalso
          rw [bstK_succ f (by omega) rfl] at hy
          cases h3 : bstK f L k with
          | none => rw [h3] at hy; cases hy
          | some y =>
            obtain ⟨y1, y2⟩ := y
            rw [h3, bst_some] at hy
            split at hy <;> cases hy
      rw [show i = k by omega]
      exact Int.le_refl _
    | some y =>
      obtain ⟨y1, y2⟩ := y
      obtain ⟨h1, h2, h3⟩ := bstK_mem f L k (by omega) y1 y2 hy
      rw [hy, bst_some] at h
      split at h
      · rename_i hlt
        injection h with h; injection h with h4 h5
        subst h4 h5
        refine ⟨hm, rfl, fun i hi => ?_⟩
        by_cases e : i = k
        · rw [e]; exact Int.le_refl _
        · have := h3 i (by omega); omega
      · rename_i hlt
        injection h with h; injection h with h4 h5
        subst h4 h5
        refine ⟨h1, h2, fun i hi => ?_⟩
        by_cases e : i = k
        · rw [e]; omega
        · exact h3 i (by omega)
theorem bstK_is (f : List Int → Int) {L : List (List Int)} {k : Nat} (hk : 0 < k) (hL : k ≤ L.length) : ∃ b n, bstK f L k = some (b, n) := by
  obtain ⟨i, rfl⟩ : ∃ i, k = i + 1 := ⟨k - 1, by omega⟩
  rw [bstK_succ f (by omega) rfl]
  cases bstK f L i with
  | none => exact ⟨_, _, rfl⟩
  | some y =>
    obtain ⟨y1, y2⟩ := y
    rw [bst_some]
    split <;> exact ⟨_, _, rfl⟩
/-- The best settings and their maximum. -/
def bestS (T : List Int) (A : List Act3) : List Int × Int := ((bstK (maxP T A) (allS A) (allS A).length).getD ([], 0))
theorem bestS_eq {T : List Int} {A : List Act3} (h : RulOk T A) : bstK (maxP T A) (allS A) (allS A).length = some (bestS T A) := by
  obtain ⟨b, n, hb⟩ := bstK_is (maxP T A) (L := allS A) (allS_ok h).chain.pos (Nat.le_refl _)
  unfold bestS; rw [hb]; rfl
theorem bestS_ok {T : List Int} {A : List Act3} (h : RulOk T A) : (bestS T A).1 ∈ allS A ∧ (bestS T A).2 = maxP T A (bestS T A).1 ∧ ∀ l ∈ allS A, (bestS T A).2 ≤ maxP T A l := by
  obtain ⟨h1, h2, h3⟩ := bstK_mem (maxP T A) (allS A) _ (Nat.le_refl _) _ _ (bestS_eq h)
  refine ⟨h1, h2, fun l hl => ?_⟩
  obtain ⟨i, hi, rfl⟩ := List.mem_iff_getElem.1 hl
  have := h3 i hi
  rwa [List.getD_eq_getElem?_getD, List.getElem?_eq_getElem hi] at this
theorem best_ok (T : List Int) (A : List Act3) (h : RulOk T A) (he : rulE T A = (0, 0)) : AC Tryz.prog 40 [rulV T A] (.tuple [isl (bestS T A).1, I (bestS T A).2, I 0]) := by
  have h1 := best_A T A (allS A) h (allS_ok h) he
  rw [bestS_eq h] at h1
  exact h1
/-! The bound of weights. -/
def outW (w : List Int) : Bool := w.any fun x => !inR x (-1000) 1000
def nzW (w : List Int) : Bool := w.any fun x => !decide (x = 0)
/-- The error of rules and weights. -/
def bndE (e : Int) (T w : List Int) : Int := fst0 [e, unl (decide ((w.length : Int) = T.length)) 10, unl (!outW w) 2, unl (nzW w) 11]
theorem boundOf_err (T : List Int) (A : List Act3) (w : List Int) (hl : LenOk T A) (hm : w.length ≤ 140737488355328) (he : bndE (rulE T A).2 T w ≠ 0) : AC Tryz.prog 43 [rulV T A, isl w] (.tuple [F2 (0, 0), I (bndE (rulE T A).2 T w)]) := by
  have hck := checkRules_A T A hl
  have hze := all_A 81 (EntI.eq (P := Tryz.prog) (f := 81)) .val _ w 11 hm (fun x _ => isZero_A x)
  have hsz := sized_A 1000
  have hal := allSized_A w 2 1000 ⟨by decide, by decide⟩ hm
  have he' : fst0 [(rulE T A).2, unl (decide ((w.length : Int) = T.length)) 10, unl (!(w.any fun x => !inR x (-1000) 1000)) 2, unl (nzW w) 11] ≠ 0 := he
  have hr : bndE (rulE T A).2 T w = fst0 [(rulE T A).2, unl (decide ((w.length : Int) = T.length)) 10, unl (!(w.any fun x => !inR x (-1000) 1000)) 2, unl (nzW w) 11] := rfl
  rw [hr]
  clear he hr
  have hq : nzW w = (w.any fun x => !decide (x = 0)) := rfl
  cases hn : nzW w
  all_goals
    rw [hn] at hq he'
    rw [← hq] at hze
    refine ac_body Tryz.func43 rfl (by kernel_rfl) fun w0 ok => ?_; show AWp _ (ctx0 w0 ok _) _ (ARet _ _ _) (entry _)
    (repeat' (first | (with_reducible first | intro hg | refine mv (by constructor) ?_) | ((with_reducible first | refine zR ?_ ?_ | refine zW mixed ?_ ?_); exact kr) | ((with_reducible apply zK); exact rfl; exact tf) | ((with_reducible apply zCD); exact rfl) | ((with_reducible apply zCN); exact rfl) | ((with_reducible apply zC); exact rfl) | ((with_reducible refine zX ?_ ?_); exact rfl) | ((with_reducible refine zE (And.intro ?_ ?_)); exact kr) | (with_reducible refine zE ?_) | ((with_reducible apply zP); (first | exact dp | exact oc rfl (hck) | exact oc rfl (hze) | exact oc rfl (hsz) | exact oc rfl (hal) | exact oc rfl (unless_A _ _) | exact oc rfl (first4_A _ _ _ _))) | ((with_reducible apply zN); exact dn) | ((with_reducible apply zA); exact da) | ((with_reducible apply zS); exact ds) | ((with_reducible apply zY); exact rfl; exact rfl; exact tf) | ((with_reducible apply zG); exact rfl; exact rfl; exact tf) | ((with_reducible apply zU); exact rfl; exact rfl) | ((with_reducible apply zD); exact rfl; exact rfl) | ((with_reducible apply zB); exact rfl; exact rfl)))
    ((with_reducible first | apply q_retR | apply q_retN); exact rl)
    rfl
theorem denT_pos (w : List Int) : ∀ k, k ≤ w.length → 0 ≤ denT w k ∧ (denT w k = 0 ↔ ((w.take k).any fun x => !decide (x = 0)) = false)
  | 0, _ => by simp [denT]
  | k + 1, hk => by
    obtain ⟨h1, h2⟩ := denT_pos w k (by omega)
    have hs : denT w (k + 1) = denT w k + (nth w k).natAbs := rfl
    rw [hs, take_getD (by omega : k < w.length), List.any_append]
    refine ⟨by omega, ?_⟩
    rw [Bool.or_eq_false_iff, ← h2]
    simp only [List.any_cons, List.any_nil, Bool.or_false, Bool.not_eq_false', decide_eq_true_eq]
    omega
theorem denT_nz (w : List Int) : denT w w.length = 0 ↔ nzW w = false := by
  have := (denT_pos w w.length (Nat.le_refl _)).2
  rwa [List.take_length] at this
/-- The bound of weights of valid rules, or the error. -/
def bndR (T : List Int) (A : List Act3) (w : List Int) : (Int × Int) × Int := bif bndE 0 T w == 0 then bndW T A w else ((0, 0), bndE 0 T w)
theorem bndR_e {T : List Int} {A : List Act3} {w : List Int} {e : Int} (h : bndE 0 T w = e) (he : e ≠ 0) : bndR T A w = ((0, 0), e) := by
  unfold bndR; rw [h, show (e == 0) = false from beq_eq_false_iff_ne.2 he]; rfl
theorem bndR_0 {T : List Int} {A : List Act3} {w : List Int} (h : bndE 0 T w = 0) : bndR T A w = bndW T A w := by
  unfold bndR; rw [h]; rfl
theorem bndE_len {T w : List Int} (h : ¬ (w.length : Int) = T.length) : bndE 0 T w = 10 := by
  unfold bndE; rw [fst0_zero, fst0_stop (by decide) (decide_eq_false h)]
theorem bndE_out {T w : List Int} (h : (w.length : Int) = T.length) (h2 : outW w = true) : bndE 0 T w = 2 := by
  unfold bndE; rw [fst0_zero, fst0_skip (decide_eq_true h), fst0_stop (by decide) (by rw [h2]; rfl)]
theorem bndE_in {T w : List Int} (h : (w.length : Int) = T.length) (h2 : outW w = false) : bndE 0 T w = unl (nzW w) 11 := by
  unfold bndE; rw [fst0_zero, fst0_skip (decide_eq_true h), fst0_skip (by rw [h2]; rfl), fst0_one]
theorem outW_ok {w : List Int} (h : outW w = false) : ∀ x ∈ w, -1000 ≤ x ∧ x ≤ 1000 := by
  intro x hx
  unfold outW at h
  rw [List.any_eq_false] at h
  have := h x hx
  exact inR_iff.1 (by simpa using this)
theorem bndE_ok {T w : List Int} (h : bndE 0 T w = 0) : WgtOk T w ∧ 0 < denT w w.length ∧ nzW w = true := by
  by_cases h1 : (w.length : Int) = T.length
  · cases h2 : outW w
    · rw [bndE_in h1 h2] at h
      have h3 := unl_ok (by decide) h
      have h4 := denT_pos w w.length (Nat.le_refl _)
      refine ⟨⟨by omega, outW_ok h2⟩, ?_, h3⟩
      have h5 := mt (denT_nz w).1 (by rw [h3]; decide)
      omega
    · rw [bndE_out h1 h2] at h; cases h
  · rw [bndE_len h1] at h; cases h
theorem boundOf_A (T : List Int) (A : List Act3) (w : List Int) (h : RulOk T A) (hr : rulE T A = (0, 0)) (hm : w.length ≤ 140737488355328) : AC Tryz.prog 43 [rulV T A, isl w] (.tuple [F2 (bndR T A w).1, I (bndR T A w).2]) := by
  by_cases he : bndE 0 T w = 0
  · obtain ⟨h1, h2, h3⟩ := bndE_ok he
    rw [bndR_0 he]
    exact bound_A T A w h hr h1 h2 h3
  · have h1 := boundOf_err T A w h.len hm (by rw [hr]; exact he)
    rw [hr] at h1
    rw [bndR_e rfl he]
    exact h1
end Go.Proofs.YtagpmpbmfjaiiaaGreatDoor
