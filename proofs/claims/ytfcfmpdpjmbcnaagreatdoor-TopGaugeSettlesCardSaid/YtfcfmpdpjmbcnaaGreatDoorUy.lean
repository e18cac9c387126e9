/- Loops: which are valid. -/
import Derived.Test.YtfcfmpdpjmbcnaaGreatDoorUa
import Derived.Test.YtfcfmpdpjmbcnaaGreatDoorUh
import Derived.Test.YtfcfmpdpjmbcnaaGreatDoorUv
set_option linter.unusedVariables false
set_option linter.unusedSimpArgs false
namespace Go.Proofs.YtfcfmpdpjmbcnaaGreatDoor
open Go.RowKit
set_option maxRecDepth 20000
set_option maxHeartbeats 8000000

def rgE1 (r : Rg) : Int := fst0 [unl (inR r.1 (-10) 10 && inR r.2 (-10) 10) 2, unl (decide (r.1 ≤ r.2)) 9]
def rgE : List Rg → Int
  | [] => 0
  | r :: l => bif rgE1 r == 0 then rgE l else rgE1 r
def loH (c : List Rg) : Int := fst0 [unl (decide (0 < (c.length : Int))) 10, unl (decide ((c.length : Int) ≤ 3)) 8]
def loE (c : List Rg) (den : Int) : Int := bif loH c == 0 then (bif rgE c == 0 then unl (inR den 1 10) 2 else rgE c) else loH c
theorem rgE_ok : ∀ {c : List Rg}, rgE c = 0 → ∀ r ∈ c, (-10 ≤ r.1 ∧ r.1 ≤ 10) ∧ (-10 ≤ r.2 ∧ r.2 ≤ 10) ∧ r.1 ≤ r.2
  | [], _, r, hr => by simp at hr
  | x :: c, h, r, hr => by
    unfold rgE at h
    by_cases h1 : rgE1 x = 0
    · rw [h1] at h
      rcases List.mem_cons.1 hr with rfl | hr
      · obtain ⟨h2, h3⟩ := fst0_cons h1
        rw [fst0_one] at h3
        have h2 := unl_ok (by decide) h2
        have h3 := unl_ok (by decide) h3
        simp only [Bool.and_eq_true, inR_true, decide_eq_true_eq] at h2 h3
        exact ⟨h2.1, h2.2, h3⟩
      · exact rgE_ok h r hr
    · rw [show (rgE1 x == 0) = false from beq_eq_false_iff_ne.2 h1] at h
      exact absurd h h1
theorem loE_ok {c : List Rg} {den : Int} (h : loE c den = 0) : LoopOk c den := by
  unfold loE at h
  by_cases h0 : loH c = 0
  · rw [h0] at h
    by_cases h1 : rgE c = 0
    · rw [h1] at h
      have h2 := unl_ok (by decide) h
      obtain ⟨h3, h4⟩ := fst0_cons h0
      rw [fst0_one] at h4
      have h3 := of_decide_eq_true (unl_ok (by decide) h3)
      have h4 := of_decide_eq_true (unl_ok (by decide) h4)
      exact ⟨by omega, by omega, rgE_ok h1, inR_true.1 h2⟩
    · rw [show (rgE c == 0) = false from beq_eq_false_iff_ne.2 h1] at h
      exact absurd h h1
  · rw [show (loH c == 0) = false from beq_eq_false_iff_ne.2 h0] at h
    exact absurd h h0
theorem rgE_drop {c : List Rg} {k : Nat} (h : k < c.length) : rgE (c.drop k) = bif rgE1 (c.getD k rg0) == 0 then rgE (c.drop (k + 1)) else rgE1 (c.getD k rg0) := by
  rw [List.drop_eq_getElem_cons h, List.getD_eq_getElem?_getD, List.getElem?_eq_getElem h]; rfl
theorem ckl1_A (n : Int) : AC Tryz.prog 100 ([I n] ++ []) (B (inR n (-10) 10)) := by
  refine ac_body Tryz.func100 rfl (by kernel_rfl) fun w0 ok => ?_; show AWp _ (ctx0 w0 ok _) _ (ARet _ _ _) (entry _)
  (repeat' (first | (with_reducible first | intro hg | refine mv (by constructor) ?_) | ((with_reducible first | refine zR ?_ ?_ | refine zW mixed ?_ ?_); exact kr) | ((with_reducible apply zK); exact rfl; exact tf) | ((with_reducible apply zCD); exact rfl) | ((with_reducible apply zCN); exact rfl) | ((with_reducible apply zC); exact rfl) | ((with_reducible refine zX ?_ ?_); exact rfl) | ((with_reducible refine zE (And.intro ?_ ?_)); exact kr) | (with_reducible refine zE ?_) | ((with_reducible apply zP); (first | exact dp | exact oc rfl (isSized_A _ _ ⟨by decide, by decide⟩))) | ((with_reducible apply zN); exact dn) | ((with_reducible apply zA); exact da) | ((with_reducible apply zS); exact ds) | ((with_reducible apply zY); exact rfl; exact rfl; exact tf) | ((with_reducible apply zG); exact rfl; exact rfl; exact tf) | ((with_reducible apply zU); exact rfl; exact rfl) | ((with_reducible apply zD); exact rfl; exact rfl) | ((with_reducible apply zB); exact rfl; exact rfl)))
  ((with_reducible first | apply q_retR | apply q_retN); exact rl)
  rfl
theorem rangeErr_A (K : Nat) (he : Enters Tryz.prog K) {fv : DV} {caps : List DV} (hv : FV K fv caps) (p : Int → Bool) (lo hi : Int) (h1 : AC Tryz.prog K ([I lo] ++ caps) (B (p lo))) (h2 : AC Tryz.prog K ([I hi] ++ caps) (B (p hi))) :
    AC Tryz.prog 99 [.agg [I lo, I hi], fv] (I (fst0 [unl (p lo && p hi) 2, unl (decide (lo ≤ hi)) 9])) := by
  generalize p lo = b1 at *
  generalize p hi = b2 at *
  refine ac_body Tryz.func99 rfl (by kernel_rfl) fun w0 ok => ?_; show AWp _ (ctx0 w0 ok _) _ (ARet _ _ _) (entry _)
  cases b1
  all_goals
    (repeat' (first | (with_reducible first | intro hg | refine mv (by constructor) ?_) | ((with_reducible first | refine zR ?_ ?_ | refine zW mixed ?_ ?_); exact kr) | ((with_reducible apply zK); exact rfl; exact tf) | ((with_reducible apply zCD); exact rfl) | ((with_reducible apply zCN); exact rfl) | ((with_reducible apply zC); exact rfl) | ((with_reducible refine zX ?_ ?_); exact rfl) | ((with_reducible refine zE (And.intro ?_ ?_)); exact kr) | (with_reducible refine zE ?_) | ((with_reducible apply zP); (first | exact o_callF he (by exact hv.v rfl) rfl h1 (.inl rfl) | exact o_callF he (by exact hv.v rfl) rfl h2 (.inl rfl) | exact dp | exact oc rfl (unless_A _ _) | exact oc rfl (first2_A _ _))) | ((with_reducible apply zN); exact dn) | ((with_reducible apply zA); exact da) | ((with_reducible apply zS); exact ds) | ((with_reducible apply zY); exact rfl; exact rfl; exact tf) | ((with_reducible apply zG); exact rfl; exact rfl; exact tf) | ((with_reducible apply zU); exact rfl; exact rfl) | ((with_reducible apply zD); exact rfl; exact rfl) | ((with_reducible apply zB); exact rfl; exact rfl)))
    ((with_reducible first | apply q_retR | apply q_retN); exact rl)
    rfl
theorem checkLoop_A (c : List Rg) (den : Int) (hm : c.length ≤ 140737488355328) : AC Tryz.prog 48 [.agg [rgV c, I den]] (I (loE c den)) := by
  have hf := first2_A (unl (decide (0 < (c.length : Int))) 10) (unl (decide ((c.length : Int) ≤ 3)) 8)
  have e0 : loH c = fst0 [unl (decide (0 < (c.length : Int))) 10, unl (decide ((c.length : Int) ≤ 3)) 8] := rfl
  rw [← e0] at hf
  by_cases h0 : loH c = 0
  rotate_left
  · have e : loE c den = loH c := by
      unfold loE
      rw [show (loH c == 0) = false from beq_eq_false_iff_ne.2 h0]; rfl
    rw [e]
    refine ac_body Tryz.func48 rfl (by kernel_rfl) fun w0 ok => ?_; show AWp _ (ctx0 w0 ok _) _ (ARet _ _ _) (entry _)
    (repeat' (first | (with_reducible first | intro hg | refine mv (by constructor) ?_) | ((with_reducible first | refine zR ?_ ?_ | refine zW mixed ?_ ?_); exact kr) | ((with_reducible apply zK); exact rfl; exact tf) | ((with_reducible apply zCD); exact rfl) | ((with_reducible apply zCN); exact rfl) | ((with_reducible apply zC); exact rfl) | ((with_reducible refine zX ?_ ?_); exact rfl) | ((with_reducible refine zE (And.intro ?_ ?_)); exact kr) | (with_reducible refine zE ?_) | ((with_reducible apply zP); (first | exact dp | exact oc rfl (hf) | exact oc rfl (unless_A _ _))) | ((with_reducible apply zN); exact dn) | ((with_reducible apply zA); exact da) | ((with_reducible apply zS); exact ds) | ((with_reducible apply zY); exact rfl; exact rfl; exact tf) | ((with_reducible apply zG); exact rfl; exact rfl; exact tf) | ((with_reducible apply zU); exact rfl; exact rfl) | ((with_reducible apply zD); exact rfl; exact rfl) | ((with_reducible apply zB); exact rfl; exact rfl)))
    ((with_reducible first | apply q_retR | apply q_retN); exact rl)
    rfl
  have e : loE c den = bif rgE c == 0 then unl (inR den 1 10) 2 else rgE c := by
    unfold loE
    rw [h0]; rfl
  rw [h0] at hf
  rw [e]
  refine ac_body Tryz.func48 rfl (by kernel_rfl) fun w0 ok => ?_; show AWp _ (ctx0 w0 ok _) _ (ARet _ _ _) (entry _)
  (repeat' (first | (with_reducible first | intro hg | refine mv (by constructor) ?_) | ((with_reducible first | refine zR ?_ ?_ | refine zW mixed ?_ ?_); exact kr) | ((with_reducible apply zK); exact rfl; exact tf) | ((with_reducible apply zCD); exact rfl) | ((with_reducible apply zCN); exact rfl) | ((with_reducible apply zC); exact rfl) | ((with_reducible refine zX ?_ ?_); exact rfl) | ((with_reducible refine zE (And.intro ?_ ?_)); exact kr) | (with_reducible refine zE ?_) | ((with_reducible apply zP); (first | exact dp | exact oc rfl (hf) | exact oc rfl (unless_A _ _))) | ((with_reducible apply zN); exact dn) | ((with_reducible apply zA); exact da) | ((with_reducible apply zS); exact ds) | ((with_reducible apply zY); exact rfl; exact rfl; exact tf) | ((with_reducible apply zG); exact rfl; exact rfl; exact tf) | ((with_reducible apply zU); exact rfl; exact rfl) | ((with_reducible apply zD); exact rfl; exact rfl) | ((with_reducible apply zB); exact rfl; exact rfl)))
  refine awp_loopL (α := Nat) (fun k => [(1, .ptr 1 0), (23, .d (rgV c)), (24, .d (I c.length)), (25, .d (I k))]) (fun _ => [(1, ⟨24, [rgV c, I den]⟩)]) (fun k => k ≤ c.length ∧ rgE c = rgE (c.drop k)) (fun k => c.length - k) 0 ⟨Nat.zero_le _, rfl⟩ (And.intro rfl (And.intro rfl (And.intro rfl (And.intro rfl trivial)))) (And.intro rfl trivial) fun k ⟨hk, hE⟩ => ?_
  by_cases hlt : k < c.length
  · rw [rgE_drop hlt] at hE
    have w : AC Tryz.prog 99 [.agg [I (c.getD k rg0).1, I (c.getD k rg0).2], fnV 100] (I (rgE1 (c.getD k rg0))) := rangeErr_A 100 (EntI.eq (P := Tryz.prog) (f := 100)) .val (fun n => inR n (-10) 10) (c.getD k rg0).1 (c.getD k rg0).2 (ckl1_A _) (ckl1_A _)
    generalize rgE1 (c.getD k rg0) = u at *
    by_cases hu : u = 0
    · subst hu
      (repeat' (first | (with_reducible first | intro hg | refine mv (by constructor) ?_) | ((with_reducible first | refine zR ?_ ?_ | refine zW mixed ?_ ?_); exact kr) | ((with_reducible apply zK); exact rfl; exact tf) | ((with_reducible apply zCD); exact rfl) | ((with_reducible apply zCN); exact rfl) | ((with_reducible apply zC); exact rfl) | ((with_reducible refine zX ?_ ?_); exact rfl) | ((with_reducible refine zE (And.intro ?_ ?_)); exact kr) | (with_reducible refine zE ?_) | ((with_reducible apply zP); (first | exact o_indexF rg0 frC_len (by decide) rfl rfl (by omega) rfl | exact dp | exact oc rfl (w))) | ((with_reducible apply zN); exact dn) | ((with_reducible apply zA); exact da) | ((with_reducible apply zS); exact ds) | ((with_reducible apply zY); exact rfl; exact rfl; exact tf) | ((with_reducible apply zG); exact rfl; exact rfl; exact tf) | ((with_reducible apply zU); exact rfl; exact rfl) | ((with_reducible apply zD); exact rfl; exact rfl) | ((with_reducible apply zB); exact rfl; exact rfl)))
      exact ⟨k + 1, ⟨hlt, hE⟩, by omega, (And.intro rfl (And.intro rfl (And.intro rfl (And.intro rfl trivial)))), (And.intro rfl trivial)⟩
    · rw [show (u == 0) = false from beq_eq_false_iff_ne.2 hu] at hE
      have hE : rgE c = u := hE
      rw [hE, show (u == 0) = false from beq_eq_false_iff_ne.2 hu]
      (repeat' (first | (with_reducible first | intro hg | refine mv (by constructor) ?_) | ((with_reducible first | refine zR ?_ ?_ | refine zW mixed ?_ ?_); exact kr) | ((with_reducible apply zK); exact rfl; exact tf) | ((with_reducible apply zCD); exact rfl) | ((with_reducible apply zCN); exact rfl) | ((with_reducible apply zC); exact rfl) | ((with_reducible refine zX ?_ ?_); exact rfl) | ((with_reducible refine zE (And.intro ?_ ?_)); exact kr) | (with_reducible refine zE ?_) | ((with_reducible apply zP); (first | exact o_indexF rg0 frC_len (by decide) rfl rfl (by omega) rfl | exact dp | exact oc rfl (w))) | ((with_reducible apply zN); exact dn) | ((with_reducible apply zA); exact da) | ((with_reducible apply zS); exact ds) | ((with_reducible apply zY); exact rfl; exact rfl; exact tf) | ((with_reducible apply zG); exact rfl; exact rfl; exact tf) | ((with_reducible apply zU); exact rfl; exact rfl) | ((with_reducible apply zD); exact rfl; exact rfl) | ((with_reducible apply zB); exact rfl; exact rfl)))
      ((with_reducible first | apply q_retR | apply q_retN); exact rl)
      rfl
  · rw [List.drop_of_length_le (by omega)] at hE
    have hE : rgE c = 0 := hE
    rw [hE]
    (repeat' (first | (with_reducible first | intro hg | refine mv (by constructor) ?_) | ((with_reducible first | refine zR ?_ ?_ | refine zW mixed ?_ ?_); exact kr) | ((with_reducible apply zK); exact rfl; exact tf) | ((with_reducible apply zCD); exact rfl) | ((with_reducible apply zCN); exact rfl) | ((with_reducible apply zC); exact rfl) | ((with_reducible refine zX ?_ ?_); exact rfl) | ((with_reducible refine zE (And.intro ?_ ?_)); exact kr) | (with_reducible refine zE ?_) | ((with_reducible apply zP); (first | exact dp | exact oc rfl (within_A _ _ _) | exact oc rfl (unless_A _ _))) | ((with_reducible apply zN); exact dn) | ((with_reducible apply zA); exact da) | ((with_reducible apply zS); exact ds) | ((with_reducible apply zY); exact rfl; exact rfl; exact tf) | ((with_reducible apply zG); exact rfl; exact rfl; exact tf) | ((with_reducible apply zU); exact rfl; exact rfl) | ((with_reducible apply zD); exact rfl; exact rfl) | ((with_reducible apply zB); exact rfl; exact rfl)))
    ((with_reducible first | apply q_retR | apply q_retN); exact rl)
    rfl

end Go.Proofs.YtfcfmpdpjmbcnaaGreatDoor
