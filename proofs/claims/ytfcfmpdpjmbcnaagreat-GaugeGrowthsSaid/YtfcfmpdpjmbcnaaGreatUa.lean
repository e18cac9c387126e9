/- Stands: which are valid, the exit thickness. -/
import Derived.Test.YtfcfmpdpjmbcnaaGreatPb
import Derived.Test.YtfcfmpdpjmbcnaaGreatUv
import Derived.Test.YtfcfmpdpjmbcnaaGreatM9
set_option linter.unusedVariables false
set_option linter.unusedSimpArgs false
namespace Go.Proofs.YtfcfmpdpjmbcnaaGreat
open Go.RowKit
set_option maxRecDepth 20000
set_option maxHeartbeats 8000000

/-- A fraction in lowest terms, or ErrLarge. -/
def frcR (n d : Int) : Fr × Int := bif inR (low n d).1 (-1000000000) 1000000000 && decide ((low n d).2 ≤ 1000000000) then (low n d, 0) else ((0, 0), 8)
theorem fraction_A (a b : Int) (ha : Sm a) (hb : 0 < b) (hb2 : b ≤ 9223372036854775807) : AC Tryz.prog 54 [I a, I b] (.tuple [F2 (frcR a b).1, I (frcR a b).2]) := by
  have h1 := lowest_A a b ha hb hb2
  have h2 := isSized_A (low a b).1 1000000000 ⟨by decide, by decide⟩
  cases h3 : inR (low a b).1 (-1000000000) 1000000000
  · have e : frcR a b = ((0, 0), 8) := by unfold frcR; rw [h3]; rfl
    rw [e]
    rw [h3] at h2
    refine ac_body Tryz.func54 rfl (by kernel_rfl) fun w0 ok => ?_; show AWp _ (ctx0 w0 ok _) _ (ARet _ _ _) (entry _)
    (repeat' (first | (with_reducible first | intro hg | refine mv (by constructor) ?_) | ((with_reducible first | refine zR ?_ ?_ | refine zW mixed ?_ ?_); exact kr) | ((with_reducible apply zK); exact rfl; exact tf) | ((with_reducible apply zCD); exact rfl) | ((with_reducible apply zCN); exact rfl) | ((with_reducible apply zC); exact rfl) | ((with_reducible refine zX ?_ ?_); exact rfl) | ((with_reducible refine zE (And.intro ?_ ?_)); exact kr) | (with_reducible refine zE ?_) | ((with_reducible apply zP); (first | exact dp | exact oc rfl (h1) | exact oc rfl (h2))) | ((with_reducible apply zN); exact dn) | ((with_reducible apply zA); exact da) | ((with_reducible apply zS); exact ds) | ((with_reducible apply zY); exact rfl; exact rfl; exact tf) | ((with_reducible apply zG); exact rfl; exact rfl; exact tf) | ((with_reducible apply zU); exact rfl; exact rfl) | ((with_reducible apply zD); exact rfl; exact rfl) | ((with_reducible apply zB); exact rfl; exact rfl)))
    ((with_reducible first | apply q_retR | apply q_retN); exact rl)
    rfl
  · rw [h3] at h2
    by_cases h4 : (low a b).2 ≤ 1000000000
    · have e : frcR a b = (low a b, 0) := by unfold frcR; rw [h3, decide_eq_true h4]; rfl
      rw [e]
      refine ac_body Tryz.func54 rfl (by kernel_rfl) fun w0 ok => ?_; show AWp _ (ctx0 w0 ok _) _ (ARet _ _ _) (entry _)
      (repeat' (first | (with_reducible first | intro hg | refine mv (by constructor) ?_) | ((with_reducible first | refine zR ?_ ?_ | refine zW mixed ?_ ?_); exact kr) | ((with_reducible apply zK); exact rfl; exact tf) | ((with_reducible apply zCD); exact rfl) | ((with_reducible apply zCN); exact rfl) | ((with_reducible apply zC); exact rfl) | ((with_reducible refine zX ?_ ?_); exact rfl) | ((with_reducible refine zE (And.intro ?_ ?_)); exact kr) | (with_reducible refine zE ?_) | ((with_reducible apply zP); (first | exact dp | exact oc rfl (h1) | exact oc rfl (h2))) | ((with_reducible apply zN); exact dn) | ((with_reducible apply zA); exact da) | ((with_reducible apply zS); exact ds) | ((with_reducible apply zY); exact rfl; exact rfl; exact tf) | ((with_reducible apply zG); exact rfl; exact rfl; exact tf) | ((with_reducible apply zU); exact rfl; exact rfl) | ((with_reducible apply zD); exact rfl; exact rfl) | ((with_reducible apply zB); exact rfl; exact rfl)))
      ((with_reducible first | apply q_retR | apply q_retN); exact rl)
      rfl
    · have e : frcR a b = ((0, 0), 8) := by unfold frcR; rw [h3, decide_eq_false h4]; rfl
      rw [e]
      refine ac_body Tryz.func54 rfl (by kernel_rfl) fun w0 ok => ?_; show AWp _ (ctx0 w0 ok _) _ (ARet _ _ _) (entry _)
      (repeat' (first | (with_reducible first | intro hg | refine mv (by constructor) ?_) | ((with_reducible first | refine zR ?_ ?_ | refine zW mixed ?_ ?_); exact kr) | ((with_reducible apply zK); exact rfl; exact tf) | ((with_reducible apply zCD); exact rfl) | ((with_reducible apply zCN); exact rfl) | ((with_reducible apply zC); exact rfl) | ((with_reducible refine zX ?_ ?_); exact rfl) | ((with_reducible refine zE (And.intro ?_ ?_)); exact kr) | (with_reducible refine zE ?_) | ((with_reducible apply zP); (first | exact dp | exact oc rfl (h1) | exact oc rfl (h2))) | ((with_reducible apply zN); exact dn) | ((with_reducible apply zA); exact da) | ((with_reducible apply zS); exact ds) | ((with_reducible apply zY); exact rfl; exact rfl; exact tf) | ((with_reducible apply zG); exact rfl; exact rfl; exact tf) | ((with_reducible apply zU); exact rfl; exact rfl) | ((with_reducible apply zD); exact rfl; exact rfl) | ((with_reducible apply zB); exact rfl; exact rfl)))
      ((with_reducible first | apply q_retR | apply q_retN); exact rl)
      rfl
theorem less_A (a b : Fr) (h1 : Sm (a.1 * b.2)) (h2 : Sm (b.1 * a.2)) : AC Tryz.prog 93 [F2 a, F2 b] (B (fLt a b)) := by
  obtain ⟨h3, h4⟩ := h1
  obtain ⟨h5, h6⟩ := h2
  refine ac_body Tryz.func93 rfl (by kernel_rfl) fun w0 ok => ?_; show AWp _ (ctx0 w0 ok _) _ (ARet _ _ _) (entry _)
  (repeat' (first | (with_reducible first | intro hg | refine mv (by constructor) ?_) | ((with_reducible first | refine zR ?_ ?_ | refine zW mixed ?_ ?_); exact kr) | ((with_reducible apply zK); exact rfl; exact tf) | ((with_reducible apply zCD); exact rfl) | ((with_reducible apply zCN); exact rfl) | ((with_reducible apply zC); exact rfl) | ((with_reducible refine zX ?_ ?_); exact rfl) | ((with_reducible refine zE (And.intro ?_ ?_)); exact kr) | (with_reducible refine zE ?_) | ((with_reducible apply zP); exact dp) | ((with_reducible apply zN); exact dn) | ((with_reducible apply zA); exact da) | ((with_reducible apply zS); exact ds) | ((with_reducible apply zY); exact rfl; exact rfl; exact tf) | ((with_reducible apply zG); exact rfl; exact rfl; exact tf) | ((with_reducible apply zU); exact rfl; exact rfl) | ((with_reducible apply zD); exact rfl; exact rfl) | ((with_reducible apply zB); exact rfl; exact rfl)))
  ((with_reducible first | apply q_retR | apply q_retN); exact rl)
  rfl
def thE (n : Int) : Int := unl (inR n 1 100000) 2
/-- A stand: the ranges of the modulus and of the plastic stiffness. -/
structure Std where
  ml : Int
  mh : Int
  pl : Int
  ph : Int
abbrev stdV (s : Std) : DV := .agg [I s.ml, I s.mh, I s.pl, I s.ph]
def stE (s : Std) : Int := fst0 [unl (inR s.ml 1 1000 && inR s.mh 1 1000 && inR s.pl 0 1000 && inR s.ph 0 1000) 2, unl (decide (s.ml ≤ s.mh) && decide (s.pl ≤ s.ph)) 9]
def psE (g e : Int) : Int := fst0 [unl (inR g 0 100000) 2, thE e]
def mtE (m q : Int) : Int := unl (inR m 1 1000 && inR q 0 1000) 2
theorem unl_cases (b : Bool) (n : Int) : unl b n = 0 ∨ unl b n = n := by cases b; exact .inr rfl; exact .inl rfl
theorem mtE_ok {m q : Int} (h : mtE m q = 0) : (1 ≤ m ∧ m ≤ 1000) ∧ 0 ≤ q ∧ q ≤ 1000 := by
  have := unl_ok (by decide) h
  rw [Bool.and_eq_true, inR_true, inR_true] at this
  exact this
theorem thE_ok {n : Int} (h : thE n = 0) : 1 ≤ n ∧ n ≤ 100000 := inR_true.1 (unl_ok (by decide) h)
theorem psE_ok {g e : Int} (h : psE g e = 0) : (0 ≤ g ∧ g ≤ 100000) ∧ 1 ≤ e ∧ e ≤ 100000 := by
  obtain ⟨h1, h2⟩ := fst0_cons h
  rw [fst0_one] at h2
  exact ⟨inR_true.1 (unl_ok (by decide) h1), thE_ok h2⟩
theorem stE_ok {s : Std} (h : stE s = 0) : ((1 ≤ s.ml ∧ s.ml ≤ 1000) ∧ (1 ≤ s.mh ∧ s.mh ≤ 1000) ∧ (0 ≤ s.pl ∧ s.pl ≤ 1000) ∧ (0 ≤ s.ph ∧ s.ph ≤ 1000)) ∧ s.ml ≤ s.mh ∧ s.pl ≤ s.ph := by
  obtain ⟨h1, h2⟩ := fst0_cons h
  rw [fst0_one] at h2
  have h1 := unl_ok (by decide) h1
  have h2 := unl_ok (by decide) h2
  simp only [Bool.and_eq_true, inR_true, decide_eq_true_eq] at h1 h2
  omega
theorem exF_bnd {m q g e : Int} (hm : 1 ≤ m ∧ m ≤ 1000) (hq : 0 ≤ q ∧ q ≤ 1000) (hg : 0 ≤ g ∧ g ≤ 100000) (he : 0 ≤ e ∧ e ≤ 100000) : (0 ≤ m * g ∧ m * g ≤ 100000000) ∧ (0 ≤ q * e ∧ q * e ≤ 100000000) := by
  have h1 : m * g ≤ 1000 * 100000 := Int.mul_le_mul hm.2 hg.2 hg.1 (by decide)
  have h2 : q * e ≤ 1000 * 100000 := Int.mul_le_mul hq.2 he.2 he.1 (by decide)
  have h3 : 0 ≤ m * g := Int.mul_nonneg (by omega) hg.1
  have h4 : 0 ≤ q * e := Int.mul_nonneg hq.1 he.1
  omega
/-! The reference. -/
end Go.Proofs.YtfcfmpdpjmbcnaaGreat
