/- The law FlatSettings: what it answers. -/
import Derived.Test.YtagpmpbmfjaiiaaGreatDoorPx
set_option linter.unusedVariables false
set_option linter.unusedSimpArgs false
namespace Go.Proofs.YtagpmpbmfjaiiaaGreatDoor
open Go.RowKit
set_option maxRecDepth 20000
set_option maxHeartbeats 8000000

theorem actE_ok {n : Nat} {a : Act3} (h : actE n a = 0) : (-10 ≤ a.lo ∧ a.lo ≤ 10) ∧ (-10 ≤ a.hi ∧ a.hi ≤ 10) ∧ a.lo ≤ a.hi ∧ a.eff.length = n ∧ ∀ x ∈ a.eff, -1000 ≤ x ∧ x ≤ 1000 := by
  obtain ⟨h1, h⟩ := fst0_cons h
  obtain ⟨h2, h⟩ := fst0_cons h
  obtain ⟨h3, h⟩ := fst0_cons h
  obtain ⟨h4, _⟩ := fst0_cons h
  have h1 := unl_ok (by decide) h1
  simp only [Bool.and_eq_true] at h1
  have h2 := of_decide_eq_true (unl_ok (by decide) h2)
  have h3 := of_decide_eq_true (unl_ok (by decide) h3)
  have h4 := all_of_any (unl_ok (by decide) h4)
  exact ⟨inR_iff.1 h1.1, inR_iff.1 h1.2, h2, by omega, fun x hx => inR_iff.1 (h4 x hx)⟩
theorem actsE_ok {n : Nat} : ∀ (A : List Act3) (k : Nat), (actsE n A k).2 = 0 → actsE n A k = (0, 0) ∧ ∀ a ∈ A, actE n a = 0
  | [], _, _ => ⟨rfl, fun a h => by simp at h⟩
  | x :: A, k, h => by
    by_cases hx : actE n x = 0
    · rw [actsE_zero hx] at h ⊢
      obtain ⟨h1, h2⟩ := actsE_ok A (k + 1) h
      refine ⟨h1, fun a ha => ?_⟩
      rcases List.mem_cons.1 ha with rfl | ha
      · exact hx
      · exact h2 a ha
    · rw [actsE_ne hx] at h; exact absurd h hx
theorem rulE_ok {T : List Int} {A : List Act3} (h : (rulE T A).2 = 0) : rulE T A = (0, 0) ∧ RulOk T A := by
  by_cases h0 : rulH T A = 0
  · have hr : rulE T A = actsE T.length A 0 := by unfold rulE; rw [h0]; rfl
    rw [hr] at h ⊢
    obtain ⟨h1, h2⟩ := actsE_ok A 0 h
    obtain ⟨g1, h0⟩ := fst0_cons h0
    obtain ⟨g2, h0⟩ := fst0_cons h0
    obtain ⟨g3, h0⟩ := fst0_cons h0
    obtain ⟨g4, h0⟩ := fst0_cons h0
    obtain ⟨g5, _⟩ := fst0_cons h0
    have g1 := of_decide_eq_true (unl_ok (by decide) g1)
    have g2 := of_decide_eq_true (unl_ok (by decide) g2)
    have g3 := all_of_any (unl_ok (by decide) g3)
    have g4 := of_decide_eq_true (unl_ok (by decide) g4)
    have g5 := of_decide_eq_true (unl_ok (by decide) g5)
    exact ⟨h1, by omega, by omega, fun x hx => inR_iff.1 (g3 x hx), by omega, by omega, fun a ha => actE_ok (h2 a ha)⟩
  · rw [rulE_h (e := rulH T A) rfl h0] at h; exact absurd h h0
theorem RulOk.len {T : List Int} {A : List Act3} (h : RulOk T A) : LenOk T A := ⟨by have := h.t9; omega, by have := h.a3; omega, fun a ha => by have := (h.b a ha).2.2.2.1; have := h.t9; omega⟩

/-- One of the first k settings is out of range. -/
def outTo (A : List Act3) (xs : List Int) : Nat → Bool
  | 0 => false
  | k + 1 => outTo A xs k || !inR (nth xs k) (A.getD k a0).lo (A.getD k a0).hi
theorem outTo_mono {A : List Act3} {xs : List Int} {k : Nat} (h : outTo A xs k = true) : ∀ n, outTo A xs (k + n) = true
  | 0 => h
  | n + 1 => by show (outTo A xs (k + n) || _) = true; rw [outTo_mono h n]; rfl
theorem outTo_in {A : List Act3} {xs : List Int} : ∀ n, outTo A xs n = false → ∀ k, k < n → inR (nth xs k) (A.getD k a0).lo (A.getD k a0).hi = true
  | 0, _, k, hk => by omega
  | n + 1, h, k, hk => by
    obtain ⟨h1, h2⟩ := Bool.or_eq_false_iff.1 h
    by_cases e : k = n
    · subst e; simpa using h2
    · exact outTo_in n h1 k (by omega)
/-- The error of settings. -/
def setE (A : List Act3) (xs : List Int) : Int := bif decide ((xs.length : Int) = A.length) then (bif outTo A xs A.length then 22 else 0) else 10
theorem setE_len {A : List Act3} {xs : List Int} (h : ¬ (xs.length : Int) = A.length) : setE A xs = 10 := by unfold setE; rw [decide_eq_false h]; rfl
theorem setE_out {A : List Act3} {xs : List Int} (h : (xs.length : Int) = A.length) : setE A xs = bif outTo A xs A.length then 22 else 0 := by unfold setE; rw [decide_eq_true h]; rfl
theorem setE_ok {A : List Act3} {xs : List Int} (h : setE A xs = 0) : xs.length = A.length ∧ ∀ k, k < A.length → (A.getD k a0).lo ≤ nth xs k ∧ nth xs k ≤ (A.getD k a0).hi := by
  by_cases hl : (xs.length : Int) = A.length
  · rw [setE_out hl] at h
    cases ho : outTo A xs A.length
    · exact ⟨by omega, fun k hk => inR_iff.1 (outTo_in _ ho k hk)⟩
    · rw [ho] at h; cases h
  · rw [setE_len hl] at h; cases h
theorem setE_SetOk {T : List Int} {A : List Act3} {xs : List Int} (hr : RulOk T A) (h : setE A xs = 0) : SetOk A xs := by
  obtain ⟨h1, h2⟩ := setE_ok h
  refine ⟨h1, fun x hx => ?_⟩
  obtain ⟨i, hi, rfl⟩ := List.mem_iff_getElem.1 hx
  have h3 := h2 i (by omega)
  have h4 := hr.b _ (act_mem (A := A) (k := i) (by omega))
  have h5 : nth xs i = xs[i] := by unfold nth; rw [List.getD_eq_getElem?_getD, List.getElem?_eq_getElem hi]; rfl
  omega
theorem refSettingsErr_A (T : List Int) (A : List Act3) (xs : List Int) (hA : A.length ≤ 140737488355328) : AC Tryz.prog 41 [rulV T A, isl xs] (I (setE A xs)) := by
  by_cases hl : (xs.length : Int) = A.length
  · rw [setE_out hl]
    refine ac_body Tryz.func41 rfl (by kernel_rfl) fun w0 ok => ?_; show AWp _ (ctx0 w0 ok _) _ (ARet _ _ _) (entry _)
    (repeat' (first | (with_reducible first | intro hg | refine mv (by constructor) ?_) | ((with_reducible first | refine zR ?_ ?_ | refine zW mixed ?_ ?_); exact kr) | ((with_reducible apply zK); exact rfl; exact tf) | ((with_reducible apply zCD); exact rfl) | ((with_reducible apply zCN); exact rfl) | ((with_reducible apply zC); exact rfl) | ((with_reducible refine zX ?_ ?_); exact rfl) | ((with_reducible refine zE (And.intro ?_ ?_)); exact kr) | (with_reducible refine zE ?_) | ((with_reducible apply zP); exact dp) | ((with_reducible apply zN); exact dn) | ((with_reducible apply zA); exact da) | ((with_reducible apply zS); exact ds) | ((with_reducible apply zY); exact rfl; exact rfl; exact tf) | ((with_reducible apply zG); exact rfl; exact rfl; exact tf) | ((with_reducible apply zU); exact rfl; exact rfl) | ((with_reducible apply zD); exact rfl; exact rfl) | ((with_reducible apply zB); exact rfl; exact rfl)))
    refine awp_loopL (α := Nat) (fun k => [(1, .d (isl xs)), (2, .ptr 2 0), (5, .d (I k))]) (fun _ => [(2, ⟨25, rulC T A⟩)]) (fun k => k ≤ A.length ∧ outTo A xs k = false) (fun k => A.length - k) 0 ⟨Nat.zero_le _, rfl⟩ (And.intro rfl (And.intro rfl (And.intro rfl trivial))) (And.intro rfl trivial) fun k ⟨hk, hd⟩ => ?_
    by_cases hlt : k < A.length
    · have hw := bwithin_A (nth xs k) (A.getD k a0).lo (A.getD k a0).hi
      have hs : outTo A xs (k + 1) = (outTo A xs k || !inR (nth xs k) (A.getD k a0).lo (A.getD k a0).hi) := rfl
      rw [hd] at hs
      cases hq : inR (nth xs k) (A.getD k a0).lo (A.getD k a0).hi
      all_goals rw [hq] at hw hs
      · have ho := outTo_mono (k := k + 1) hs (A.length - (k + 1))
        rw [show k + 1 + (A.length - (k + 1)) = A.length by omega] at ho
        (repeat' (first | (with_reducible first | intro hg | refine mv (by constructor) ?_) | ((with_reducible first | refine zR ?_ ?_ | refine zW mixed ?_ ?_); exact kr) | ((with_reducible apply zK); exact rfl; exact tf) | ((with_reducible apply zCD); exact rfl) | ((with_reducible apply zCN); exact rfl) | ((with_reducible apply zC); exact rfl) | ((with_reducible refine zX ?_ ?_); exact rfl) | ((with_reducible refine zE (And.intro ?_ ?_)); exact kr) | (with_reducible refine zE ?_) | ((with_reducible apply zP); (first | exact o_indexF a0 actC_len (by decide) rfl rfl (by omega) rfl | exact o_indexI (j := k) (xs := xs) rfl rfl (by omega) rfl | exact dp | exact oc rfl (hw))) | ((with_reducible apply zN); exact dn) | ((with_reducible apply zA); exact da) | ((with_reducible apply zS); exact ds) | ((with_reducible apply zY); exact rfl; exact rfl; exact tf) | ((with_reducible apply zG); exact rfl; exact rfl; exact tf) | ((with_reducible apply zU); exact rfl; exact rfl) | ((with_reducible apply zD); exact rfl; exact rfl) | ((with_reducible apply zB); exact rfl; exact rfl)))
        ((with_reducible first | apply q_retR | apply q_retN); exact rl)
        rw [ho]; rfl
      · (repeat' (first | (with_reducible first | intro hg | refine mv (by constructor) ?_) | ((with_reducible first | refine zR ?_ ?_ | refine zW mixed ?_ ?_); exact kr) | ((with_reducible apply zK); exact rfl; exact tf) | ((with_reducible apply zCD); exact rfl) | ((with_reducible apply zCN); exact rfl) | ((with_reducible apply zC); exact rfl) | ((with_reducible refine zX ?_ ?_); exact rfl) | ((with_reducible refine zE (And.intro ?_ ?_)); exact kr) | (with_reducible refine zE ?_) | ((with_reducible apply zP); (first | exact o_indexF a0 actC_len (by decide) rfl rfl (by omega) rfl | exact o_indexI (j := k) (xs := xs) rfl rfl (by omega) rfl | exact dp | exact oc rfl (hw))) | ((with_reducible apply zN); exact dn) | ((with_reducible apply zA); exact da) | ((with_reducible apply zS); exact ds) | ((with_reducible apply zY); exact rfl; exact rfl; exact tf) | ((with_reducible apply zG); exact rfl; exact rfl; exact tf) | ((with_reducible apply zU); exact rfl; exact rfl) | ((with_reducible apply zD); exact rfl; exact rfl) | ((with_reducible apply zB); exact rfl; exact rfl)))
        exact ⟨k + 1, ⟨hlt, hs⟩, by omega, (And.intro rfl (And.intro rfl (And.intro rfl trivial))), (And.intro rfl trivial)⟩
    · obtain rfl : k = A.length := by omega
      (repeat' (first | (with_reducible first | intro hg | refine mv (by constructor) ?_) | ((with_reducible first | refine zR ?_ ?_ | refine zW mixed ?_ ?_); exact kr) | ((with_reducible apply zK); exact rfl; exact tf) | ((with_reducible apply zCD); exact rfl) | ((with_reducible apply zCN); exact rfl) | ((with_reducible apply zC); exact rfl) | ((with_reducible refine zX ?_ ?_); exact rfl) | ((with_reducible refine zE (And.intro ?_ ?_)); exact kr) | (with_reducible refine zE ?_) | ((with_reducible apply zP); exact dp) | ((with_reducible apply zN); exact dn) | ((with_reducible apply zA); exact da) | ((with_reducible apply zS); exact ds) | ((with_reducible apply zY); exact rfl; exact rfl; exact tf) | ((with_reducible apply zG); exact rfl; exact rfl; exact tf) | ((with_reducible apply zU); exact rfl; exact rfl) | ((with_reducible apply zD); exact rfl; exact rfl) | ((with_reducible apply zB); exact rfl; exact rfl)))
      ((with_reducible first | apply q_retR | apply q_retN); exact rl)
      rw [hd]; rfl
  · rw [setE_len hl]
    refine ac_body Tryz.func41 rfl (by kernel_rfl) fun w0 ok => ?_; show AWp _ (ctx0 w0 ok _) _ (ARet _ _ _) (entry _)
    (repeat' (first | (with_reducible first | intro hg | refine mv (by constructor) ?_) | ((with_reducible first | refine zR ?_ ?_ | refine zW mixed ?_ ?_); exact kr) | ((with_reducible apply zK); exact rfl; exact tf) | ((with_reducible apply zCD); exact rfl) | ((with_reducible apply zCN); exact rfl) | ((with_reducible apply zC); exact rfl) | ((with_reducible refine zX ?_ ?_); exact rfl) | ((with_reducible refine zE (And.intro ?_ ?_)); exact kr) | (with_reducible refine zE ?_) | ((with_reducible apply zP); exact dp) | ((with_reducible apply zN); exact dn) | ((with_reducible apply zA); exact da) | ((with_reducible apply zS); exact ds) | ((with_reducible apply zY); exact rfl; exact rfl; exact tf) | ((with_reducible apply zG); exact rfl; exact rfl; exact tf) | ((with_reducible apply zU); exact rfl; exact rfl) | ((with_reducible apply zD); exact rfl; exact rfl) | ((with_reducible apply zB); exact rfl; exact rfl)))
    ((with_reducible first | apply q_retR | apply q_retN); exact rl)
    rfl
/-- The error of rules and settings. -/
def rsE (T : List Int) (A : List Act3) (xs : List Int) : Int := bif (rulE T A).2 == 0 then setE A xs else (rulE T A).2
theorem rsE_r {T : List Int} {A : List Act3} {xs : List Int} (h : (rulE T A).2 ≠ 0) : rsE T A xs = (rulE T A).2 := by
  unfold rsE; rw [show ((rulE T A).2 == 0) = false from beq_eq_false_iff_ne.2 h]; rfl
theorem rsE_s {T : List Int} {A : List Act3} {xs : List Int} (h : (rulE T A).2 = 0) : rsE T A xs = setE A xs := by
  unfold rsE; rw [h]; rfl
/-- All deviations. -/
def devL (T : List Int) (A : List Act3) (xs : List Int) : List Int := lst (devP T A xs) T.length
theorem refDeviations_A (T : List Int) (A : List Act3) (xs : List Int) (h : RulOk T A) (hs : SetOk A xs) : AC Tryz.prog 78 [rulV T A, isl xs] (isl (devL T A xs)) := by
  have ht9 := h.t9
  have ha3 := h.a3
  have hxl := hs.1
  refine ac_body Tryz.func78 rfl (by kernel_rfl) fun w0 ok => ?_; show AWp _ (ctx0 w0 ok _) _ (ARet _ _ _) (entry _)
  (repeat' (first | (with_reducible first | intro hg | refine mv (by constructor) ?_) | ((with_reducible first | refine zR ?_ ?_ | refine zW mixed ?_ ?_); exact kr) | ((with_reducible apply zK); exact rfl; exact tf) | ((with_reducible apply zCD); exact rfl) | ((with_reducible apply zCN); exact rfl) | ((with_reducible apply zC); exact rfl) | ((with_reducible refine zX ?_ ?_); exact rfl) | ((with_reducible refine zE (And.intro ?_ ?_)); exact kr) | (with_reducible refine zE ?_) | ((with_reducible apply zP); exact dp) | ((with_reducible apply zN); exact dn) | ((with_reducible apply zA); exact da) | ((with_reducible apply zS); exact ds) | ((with_reducible apply zY); exact rfl; exact rfl; exact tf) | ((with_reducible apply zG); exact rfl; exact rfl; exact tf) | ((with_reducible apply zU); exact rfl; exact rfl) | ((with_reducible apply zD); exact rfl; exact rfl) | ((with_reducible apply zB); exact rfl; exact rfl)))
  refine awp_loopL (α := Nat) (fun k => [(1, .d (isl xs)), (2, .ptr 2 0), (5, ownS 46 k), (6, .d (I k))]) (fun k => (2, ⟨25, rulC T A⟩) :: ownM 46 3 (ivs (lst (devP T A xs) k)) k) (fun k => k ≤ T.length) (fun k => T.length - k) 0 (Nat.zero_le _) (And.intro rfl (And.intro rfl (And.intro rfl (And.intro rfl trivial)))) (And.intro rfl trivial) fun k hk => ?_
  by_cases hlt : k < T.length
  · have hsn := blk_snoc 3 (devP T A xs) k (v := devP T A xs k) rfl
    have hdl : devTo T A xs k A.length = devP T A xs k := rfl
    have inner : ∀ (j : Nat), j < A.length → (nth xs j * nth (A.getD j a0).eff k).natAbs ≤ 10 * 1000 := fun j hj => by
      obtain ⟨_, _, _, h3, h4⟩ := h.b _ (act_mem hj)
      have h2 := hs.2 _ (nth_mem (xs := xs) (k := j) (by omega))
      have h5 := h4 _ (nth_mem (xs := (A.getD j a0).eff) (k := k) (by omega))
      exact mul_rng 10 1000 (by omega) (by omega)
    rcases k with _ | k
    · (repeat' (first | (with_reducible first | intro hg | refine mv (by constructor) ?_) | ((with_reducible first | refine zR ?_ ?_ | refine zW mixed ?_ ?_); exact kr) | ((with_reducible apply zK); exact rfl; exact tf) | ((with_reducible apply zCD); exact rfl) | ((with_reducible apply zCN); exact rfl) | ((with_reducible apply zC); exact rfl) | ((with_reducible refine zX ?_ ?_); exact rfl) | ((with_reducible refine zE (And.intro ?_ ?_)); exact kr) | (with_reducible refine zE ?_) | ((with_reducible apply zP); (first | exact o_indexI (j := 0) (xs := T) rfl rfl (by omega) rfl | exact dp)) | ((with_reducible apply zN); exact dn) | ((with_reducible apply zA); exact da) | ((with_reducible apply zS); exact ds) | ((with_reducible apply zY); exact rfl; exact rfl; exact tf) | ((with_reducible apply zG); exact rfl; exact rfl; exact tf) | ((with_reducible apply zU); exact rfl; exact rfl) | ((with_reducible apply zD); exact rfl; exact rfl) | ((with_reducible apply zB); exact rfl; exact rfl)))
      refine awp_loopL (α := Nat) (fun j => [(1, .d (isl xs)), (2, .ptr 2 0), (5, .d nilV), (6, .d (I 0)), (7, .d (I (devTo T A xs 0 j))), (8, .d (I j))]) (fun j => [(2, ⟨25, rulC T A⟩)]) (fun j => j ≤ A.length) (fun j => A.length - j) 0 (Nat.zero_le _) (And.intro rfl (And.intro rfl (And.intro rfl (And.intro rfl (And.intro rfl (And.intro rfl trivial)))))) (And.intro rfl trivial) fun j hj => ?_
      by_cases hlj : j < A.length
      · have hb := devTo_bnd h hs hlt j hj
        have hb1 := devTo_bnd h hs hlt (j + 1) hlj
        obtain ⟨_, _, _, h3, h4⟩ := h.b _ (act_mem hlj)
        have h6 := inner j hlj
        (repeat' (first | (with_reducible first | intro hg | refine mv (by constructor) ?_) | ((with_reducible first | refine zR ?_ ?_ | refine zW mixed ?_ ?_); exact kr) | ((with_reducible apply zK); exact rfl; exact tf) | ((with_reducible apply zCD); exact rfl) | ((with_reducible apply zCN); exact rfl) | ((with_reducible apply zC); exact rfl) | ((with_reducible refine zX ?_ ?_); exact rfl) | ((with_reducible refine zE (And.intro ?_ ?_)); exact kr) | (with_reducible refine zE ?_) | ((with_reducible apply zP); (first | exact o_indexF a0 actC_len (by decide) rfl rfl (by omega) rfl | exact o_indexI (j := j) (xs := xs) rfl rfl (by omega) rfl | exact o_indexI (j := 0) (xs := (A.getD j a0).eff) rfl rfl (by omega) rfl | exact dp)) | ((with_reducible apply zN); exact dn) | ((with_reducible apply zA); exact da) | ((with_reducible apply zS); exact ds) | ((with_reducible apply zY); exact rfl; exact rfl; exact tf) | ((with_reducible apply zG); exact rfl; exact rfl; exact tf) | ((with_reducible apply zU); exact rfl; exact rfl) | ((with_reducible apply zD); exact rfl; exact rfl) | ((with_reducible apply zB); exact rfl; exact rfl)))
        exact ⟨j + 1, hlj, by omega, (And.intro rfl (And.intro rfl (And.intro rfl (And.intro rfl (And.intro rfl (And.intro rfl trivial)))))), (And.intro rfl trivial)⟩
      · obtain rfl : j = A.length := by omega
        (repeat' (first | (with_reducible first | intro hg | refine mv (by constructor) ?_) | ((with_reducible first | refine zR ?_ ?_ | refine zW mixed ?_ ?_); exact kr) | ((with_reducible apply zK); exact rfl; exact tf) | ((with_reducible apply zCD); exact rfl) | ((with_reducible apply zCN); exact rfl) | ((with_reducible apply zC); exact rfl) | ((with_reducible refine zX ?_ ?_); exact rfl) | ((with_reducible refine zE (And.intro ?_ ?_)); exact kr) | (with_reducible refine zE ?_) | ((with_reducible apply zP); exact dp) | ((with_reducible apply zN); exact dn) | ((with_reducible apply zA); exact da) | ((with_reducible apply zS); exact ds) | ((with_reducible apply zY); exact rfl; exact rfl; exact tf) | ((with_reducible apply zG); exact rfl; exact rfl; exact tf) | ((with_reducible apply zU); exact rfl; exact rfl) | ((with_reducible apply zD); exact rfl; exact rfl) | ((with_reducible apply zB); exact rfl; exact rfl)))
        exact ⟨1, hlt, by omega, (And.intro rfl (And.intro rfl (And.intro rfl (And.intro rfl trivial)))), (And.intro rfl (And.intro (hsn) trivial))⟩
    · (repeat' (first | (with_reducible first | intro hg | refine mv (by constructor) ?_) | ((with_reducible first | refine zR ?_ ?_ | refine zW mixed ?_ ?_); exact kr) | ((with_reducible apply zK); exact rfl; exact tf) | ((with_reducible apply zCD); exact rfl) | ((with_reducible apply zCN); exact rfl) | ((with_reducible apply zC); exact rfl) | ((with_reducible refine zX ?_ ?_); exact rfl) | ((with_reducible refine zE (And.intro ?_ ?_)); exact kr) | (with_reducible refine zE ?_) | ((with_reducible apply zP); (first | exact o_indexI (j := k + 1) (xs := T) rfl rfl (by omega) rfl | exact dp)) | ((with_reducible apply zN); exact dn) | ((with_reducible apply zA); exact da) | ((with_reducible apply zS); exact ds) | ((with_reducible apply zY); exact rfl; exact rfl; exact tf) | ((with_reducible apply zG); exact rfl; exact rfl; exact tf) | ((with_reducible apply zU); exact rfl; exact rfl) | ((with_reducible apply zD); exact rfl; exact rfl) | ((with_reducible apply zB); exact rfl; exact rfl)))
      refine awp_loopL (α := Nat) (fun j => [(1, .d (isl xs)), (2, .ptr 2 0), (5, .lsl 46 0 (k + 1) 1), (6, .d (I ((k + 1 : Nat) : Int))), (7, .d (I (devTo T A xs (k + 1) j))), (8, .d (I j))]) (fun j => [(2, ⟨25, rulC T A⟩), (46, ⟨3, ivs (lst (devP T A xs) (k + 1))⟩)]) (fun j => j ≤ A.length) (fun j => A.length - j) 0 (Nat.zero_le _) (And.intro rfl (And.intro rfl (And.intro rfl (And.intro rfl (And.intro rfl (And.intro rfl trivial)))))) (And.intro rfl (And.intro rfl trivial)) fun j hj => ?_
      by_cases hlj : j < A.length
      · have hb := devTo_bnd h hs hlt j hj
        have hb1 := devTo_bnd h hs hlt (j + 1) hlj
        obtain ⟨_, _, _, h3, h4⟩ := h.b _ (act_mem hlj)
        have h6 := inner j hlj
        (repeat' (first | (with_reducible first | intro hg | refine mv (by constructor) ?_) | ((with_reducible first | refine zR ?_ ?_ | refine zW mixed ?_ ?_); exact kr) | ((with_reducible apply zK); exact rfl; exact tf) | ((with_reducible apply zCD); exact rfl) | ((with_reducible apply zCN); exact rfl) | ((with_reducible apply zC); exact rfl) | ((with_reducible refine zX ?_ ?_); exact rfl) | ((with_reducible refine zE (And.intro ?_ ?_)); exact kr) | (with_reducible refine zE ?_) | ((with_reducible apply zP); (first | exact o_indexF a0 actC_len (by decide) rfl rfl (by omega) rfl | exact o_indexI (j := j) (xs := xs) rfl rfl (by omega) rfl | exact o_indexI (j := k + 1) (xs := (A.getD j a0).eff) rfl rfl (by omega) rfl | exact dp)) | ((with_reducible apply zN); exact dn) | ((with_reducible apply zA); exact da) | ((with_reducible apply zS); exact ds) | ((with_reducible apply zY); exact rfl; exact rfl; exact tf) | ((with_reducible apply zG); exact rfl; exact rfl; exact tf) | ((with_reducible apply zU); exact rfl; exact rfl) | ((with_reducible apply zD); exact rfl; exact rfl) | ((with_reducible apply zB); exact rfl; exact rfl)))
        exact ⟨j + 1, hlj, by omega, (And.intro rfl (And.intro rfl (And.intro rfl (And.intro rfl (And.intro rfl (And.intro rfl trivial)))))), (And.intro rfl (And.intro rfl trivial))⟩
      · obtain rfl : j = A.length := by omega
        (repeat' (first | (with_reducible first | intro hg | refine mv (by constructor) ?_) | ((with_reducible first | refine zR ?_ ?_ | refine zW mixed ?_ ?_); exact kr) | ((with_reducible apply zK); exact rfl; exact tf) | ((with_reducible apply zCD); exact rfl) | ((with_reducible apply zCN); exact rfl) | ((with_reducible apply zC); exact rfl) | ((with_reducible refine zX ?_ ?_); exact rfl) | ((with_reducible refine zE (And.intro ?_ ?_)); exact kr) | (with_reducible refine zE ?_) | ((with_reducible apply zP); exact dp) | ((with_reducible apply zN); exact dn) | ((with_reducible apply zA); exact da) | ((with_reducible apply zS); exact ds) | ((with_reducible apply zY); exact rfl; exact rfl; exact tf) | ((with_reducible apply zG); exact rfl; exact rfl; exact tf) | ((with_reducible apply zU); exact rfl; exact rfl) | ((with_reducible apply zD); exact rfl; exact rfl) | ((with_reducible apply zB); exact rfl; exact rfl)))
        exact ⟨k + 1 + 1, hlt, by omega, (And.intro rfl (And.intro rfl (And.intro rfl (And.intro rfl trivial)))), (And.intro rfl (And.intro (hsn) trivial))⟩
  · obtain rfl : k = T.length := by omega
    refine awp_own 5 46 (t := 3) (devP T A xs) rfl (fun k hk => by rw [hk]; rfl) ?_
    (repeat' (first | (with_reducible first | intro hg | refine mv (by constructor) ?_) | ((with_reducible first | refine zR ?_ ?_ | refine zW mixed ?_ ?_); exact kr) | ((with_reducible apply zK); exact rfl; exact tf) | ((with_reducible apply zCD); exact rfl) | ((with_reducible apply zCN); exact rfl) | ((with_reducible apply zC); exact rfl) | ((with_reducible refine zX ?_ ?_); exact rfl) | ((with_reducible refine zE (And.intro ?_ ?_)); exact kr) | (with_reducible refine zE ?_) | ((with_reducible apply zP); exact dp) | ((with_reducible apply zN); exact dn) | ((with_reducible apply zA); exact da) | ((with_reducible apply zS); exact ds) | ((with_reducible apply zY); exact rfl; exact rfl; exact tf) | ((with_reducible apply zG); exact rfl; exact rfl; exact tf) | ((with_reducible apply zU); exact rfl; exact rfl) | ((with_reducible apply zD); exact rfl; exact rfl) | ((with_reducible apply zB); exact rfl; exact rfl)))
    ((with_reducible first | apply q_retR | apply q_retN); exact rl)
    rfl
theorem refMaximum_A (T : List Int) (A : List Act3) (xs : List Int) (h : RulOk T A) (hs : SetOk A xs) : AC Tryz.prog 42 [rulV T A, isl xs] (I (maxP T A xs)) := by
  have ht9 := h.t9
  have ha3 := h.a3
  have hd := refDeviations_A T A xs h hs
  have hdl : (devL T A xs).length = T.length := lst_length _ _
  have hdn : ∀ k, k < T.length → nth (devL T A xs) k = devP T A xs k := fun k hk => lst_nth _ hk
  generalize devL T A xs = D at *
  refine ac_body Tryz.func42 rfl (by kernel_rfl) fun w0 ok => ?_; show AWp _ (ctx0 w0 ok _) _ (ARet _ _ _) (entry _)
  (repeat' (first | (with_reducible first | intro hg | refine mv (by constructor) ?_) | ((with_reducible first | refine zR ?_ ?_ | refine zW mixed ?_ ?_); exact kr) | ((with_reducible apply zK); exact rfl; exact tf) | ((with_reducible apply zCD); exact rfl) | ((with_reducible apply zCN); exact rfl) | ((with_reducible apply zC); exact rfl) | ((with_reducible refine zX ?_ ?_); exact rfl) | ((with_reducible refine zE (And.intro ?_ ?_)); exact kr) | (with_reducible refine zE ?_) | ((with_reducible apply zP); (first | exact dp | exact oc rfl (hd))) | ((with_reducible apply zN); exact dn) | ((with_reducible apply zA); exact da) | ((with_reducible apply zS); exact ds) | ((with_reducible apply zY); exact rfl; exact rfl; exact tf) | ((with_reducible apply zG); exact rfl; exact rfl; exact tf) | ((with_reducible apply zU); exact rfl; exact rfl) | ((with_reducible apply zD); exact rfl; exact rfl) | ((with_reducible apply zB); exact rfl; exact rfl)))
  refine awp_loopL (α := Nat) (fun k => [(5, .d (isl D)), (6, .d (I (maxTo T A xs k))), (7, .d (I k))]) (fun _ => []) (fun k => k ≤ T.length) (fun k => T.length - k) 0 (Nat.zero_le _) (And.intro rfl (And.intro rfl (And.intro rfl trivial))) trivial fun k hk => ?_
  by_cases hlt : k < T.length
  · have hb := maxTo_bnd h hs k hk
    have hb2 := devTo_bnd h hs hlt A.length (Nat.le_refl _)
    have hsz := bsize_A (devP T A xs k) ⟨by unfold devP; omega, by unfold devP; omega⟩
    rw [← hdn k hlt] at hsz
    have hmx : maxTo T A xs (k + 1) = max (maxTo T A xs k) (nth D k).natAbs := by rw [hdn k hlt]; rfl
    (repeat' (first | (with_reducible first | intro hg | refine mv (by constructor) ?_) | ((with_reducible first | refine zR ?_ ?_ | refine zW mixed ?_ ?_); exact kr) | ((with_reducible apply zK); exact rfl; exact tf) | ((with_reducible apply zCD); exact rfl) | ((with_reducible apply zCN); exact rfl) | ((with_reducible apply zC); exact rfl) | ((with_reducible refine zX ?_ ?_); exact rfl) | ((with_reducible refine zE (And.intro ?_ ?_)); exact kr) | (with_reducible refine zE ?_) | ((with_reducible apply zP); (first | exact o_indexI (j := k) (xs := D) rfl rfl (by omega) rfl | exact dp | exact oc rfl (hsz))) | ((with_reducible apply zN); exact dn) | ((with_reducible apply zA); exact da) | ((with_reducible apply zS); exact ds) | ((with_reducible apply zY); exact rfl; exact rfl; exact tf) | ((with_reducible apply zG); exact rfl; exact rfl; exact tf) | ((with_reducible apply zU); exact rfl; exact rfl) | ((with_reducible apply zD); exact rfl; exact rfl) | ((with_reducible apply zB); exact rfl; exact rfl)))
    exact ⟨k + 1, hlt, by omega, (And.intro rfl (And.intro (congrArg (fun n => AV.d (I n)) hmx.symm) (And.intro (rfl) trivial))), trivial⟩
  · obtain rfl : k = T.length := by omega
    (repeat' (first | (with_reducible first | intro hg | refine mv (by constructor) ?_) | ((with_reducible first | refine zR ?_ ?_ | refine zW mixed ?_ ?_); exact kr) | ((with_reducible apply zK); exact rfl; exact tf) | ((with_reducible apply zCD); exact rfl) | ((with_reducible apply zCN); exact rfl) | ((with_reducible apply zC); exact rfl) | ((with_reducible refine zX ?_ ?_); exact rfl) | ((with_reducible refine zE (And.intro ?_ ?_)); exact kr) | (with_reducible refine zE ?_) | ((with_reducible apply zP); exact dp) | ((with_reducible apply zN); exact dn) | ((with_reducible apply zA); exact da) | ((with_reducible apply zS); exact ds) | ((with_reducible apply zY); exact rfl; exact rfl; exact tf) | ((with_reducible apply zG); exact rfl; exact rfl; exact tf) | ((with_reducible apply zU); exact rfl; exact rfl) | ((with_reducible apply zD); exact rfl; exact rfl) | ((with_reducible apply zB); exact rfl; exact rfl)))
    ((with_reducible first | apply q_retR | apply q_retN); exact rl)
    rfl
end Go.Proofs.YtagpmpbmfjaiiaaGreatDoor
