/- The reference's errors of loops, proofs, starts and coefficients; copies. -/
import Derived.Test.YtfcfmpdpjmbcnaaGreatDoorSe
import Derived.Test.YtfcfmpdpjmbcnaaGreatDoorTd
set_option linter.unusedVariables false
set_option linter.unusedSimpArgs false
namespace Go.Proofs.YtfcfmpdpjmbcnaaGreatDoor
open Go.RowKit
set_option maxRecDepth 20000
set_option maxHeartbeats 8000000

theorem loE_big {c : List Rg} {den : Int} (h : 3 < c.length) : loE c den = 8 := by
  have : loH c = 8 := by
    unfold loH
    rw [decide_eq_true (by omega), decide_eq_false (by omega)]; rfl
  unfold loE
  rw [this]; rfl
theorem loE_none {den : Int} : loE [] den = 10 := rfl
theorem loE_mid {c : List Rg} {den : Int} (h1 : 0 < c.length) (h3 : c.length ≤ 3) : loE c den = bif rgE c == 0 then unl (inR den 1 10) 2 else rgE c := by
  have : loH c = 0 := by
    unfold loH
    rw [decide_eq_true (by omega), decide_eq_true (by omega)]; rfl
  unfold loE
  rw [this]; rfl
theorem rgE1_eq (r : Rg) : rgE1 r = bif inR r.1 (-10) 10 && inR r.2 (-10) 10 then unl (decide (r.1 ≤ r.2)) 9 else 2 := by
  unfold rgE1
  cases inR r.1 (-10) 10 && inR r.2 (-10) 10
  · rfl
  · exact (fst0_zero _).trans (fst0_one _)
theorem qloopErr_A (c : List Rg) (den : Int) (hm : c.length ≤ 140737488355328) : AC Tryz.prog 13 [loV c den] (I (loE c den)) := by
  by_cases h0 : c.length = 0
  · obtain rfl : c = [] := List.length_eq_zero_iff.1 h0
    rw [loE_none]
    refine ac_body Tryz.func13 rfl (by kernel_rfl) fun w0 ok => ?_; show AWp _ (ctx0 w0 ok _) _ (ARet _ _ _) (entry _)
    exact zF
  by_cases h3 : c.length ≤ 3
  rotate_left
  · rw [loE_big (by omega)]
    refine ac_body Tryz.func13 rfl (by kernel_rfl) fun w0 ok => ?_; show AWp _ (ctx0 w0 ok _) _ (ARet _ _ _) (entry _)
    exact zF
  rw [loE_mid (by omega) h3]
  refine ac_body Tryz.func13 rfl (by kernel_rfl) fun w0 ok => ?_; show AWp _ (ctx0 w0 ok _) _ (ARet _ _ _) (entry _)
  (repeat' (first | (with_reducible first | intro hg | refine mv (by constructor) ?_) | ((with_reducible first | refine zR ?_ ?_ | refine zW mixed ?_ ?_); exact kr) | ((with_reducible apply zK); exact rfl; exact tf) | ((with_reducible apply zCD); exact rfl) | ((with_reducible apply zCN); exact rfl) | ((with_reducible apply zC); exact rfl) | ((with_reducible refine zX ?_ ?_); exact rfl) | ((with_reducible refine zE (And.intro ?_ ?_)); exact kr) | (with_reducible refine zE ?_) | ((with_reducible apply zP); exact dp) | ((with_reducible apply zN); exact dn) | ((with_reducible apply zA); exact da) | ((with_reducible apply zS); exact ds) | ((with_reducible apply zY); exact rfl; exact rfl; exact tf) | ((with_reducible apply zG); exact rfl; exact rfl; exact tf) | ((with_reducible apply zU); exact rfl; exact rfl) | ((with_reducible apply zD); exact rfl; exact rfl) | ((with_reducible apply zB); exact rfl; exact rfl)))
  refine awp_loopL (α := Nat) (fun k => [(1, .ptr 1 0), (3, .d (I k))]) (fun _ => [(1, ⟨24, [rgV c, I den]⟩)]) (fun k => k ≤ c.length ∧ rgE c = rgE (c.drop k)) (fun k => c.length - k) 0 ⟨Nat.zero_le _, rfl⟩ (And.intro rfl (And.intro rfl trivial)) (And.intro rfl trivial) fun k ⟨hk, hE⟩ => ?_
  by_cases hlt : k < c.length
  · rw [rgE_drop hlt, rgE1_eq] at hE
    have w1 := bwithin_A (c.getD k rg0).1 (-10) 10
    have w2 := bwithin_A (c.getD k rg0).2 (-10) 10
    have w3 := bwithin_A den 1 10
    cases hb1 : inR (c.getD k rg0).1 (-10) 10
    · rw [hb1] at w1 hE
      have hE : rgE c = 2 := hE
      rw [hE]
      (repeat' (first | (with_reducible first | intro hg | refine mv (by constructor) ?_) | ((with_reducible first | refine zR ?_ ?_ | refine zW mixed ?_ ?_); exact kr) | ((with_reducible apply zK); exact rfl; exact tf) | ((with_reducible apply zCD); exact rfl) | ((with_reducible apply zCN); exact rfl) | ((with_reducible apply zC); exact rfl) | ((with_reducible refine zX ?_ ?_); exact rfl) | ((with_reducible refine zE (And.intro ?_ ?_)); exact kr) | (with_reducible refine zE ?_) | ((with_reducible apply zP); (first | exact o_indexF rg0 frC_len (by decide) rfl rfl (by omega) rfl | exact dp | exact oc rfl (w1) | exact oc rfl (w2))) | ((with_reducible apply zN); exact dn) | ((with_reducible apply zA); exact da) | ((with_reducible apply zS); exact ds) | ((with_reducible apply zY); exact rfl; exact rfl; exact tf) | ((with_reducible apply zG); exact rfl; exact rfl; exact tf) | ((with_reducible apply zU); exact rfl; exact rfl) | ((with_reducible apply zD); exact rfl; exact rfl) | ((with_reducible apply zB); exact rfl; exact rfl)))
      ((with_reducible first | apply q_retR | apply q_retN); exact rl)
      rfl
    cases hb2 : inR (c.getD k rg0).2 (-10) 10
    · rw [hb1] at w1 hE
      rw [hb2] at w2 hE
      have hE : rgE c = 2 := hE
      rw [hE]
      (repeat' (first | (with_reducible first | intro hg | refine mv (by constructor) ?_) | ((with_reducible first | refine zR ?_ ?_ | refine zW mixed ?_ ?_); exact kr) | ((with_reducible apply zK); exact rfl; exact tf) | ((with_reducible apply zCD); exact rfl) | ((with_reducible apply zCN); exact rfl) | ((with_reducible apply zC); exact rfl) | ((with_reducible refine zX ?_ ?_); exact rfl) | ((with_reducible refine zE (And.intro ?_ ?_)); exact kr) | (with_reducible refine zE ?_) | ((with_reducible apply zP); (first | exact o_indexF rg0 frC_len (by decide) rfl rfl (by omega) rfl | exact dp | exact oc rfl (w1) | exact oc rfl (w2))) | ((with_reducible apply zN); exact dn) | ((with_reducible apply zA); exact da) | ((with_reducible apply zS); exact ds) | ((with_reducible apply zY); exact rfl; exact rfl; exact tf) | ((with_reducible apply zG); exact rfl; exact rfl; exact tf) | ((with_reducible apply zU); exact rfl; exact rfl) | ((with_reducible apply zD); exact rfl; exact rfl) | ((with_reducible apply zB); exact rfl; exact rfl)))
      ((with_reducible first | apply q_retR | apply q_retN); exact rl)
      rfl
    rw [hb1] at w1 hE
    rw [hb2] at w2 hE
    by_cases hle : (c.getD k rg0).1 ≤ (c.getD k rg0).2
    · rw [decide_eq_true hle] at hE
      have hE : rgE c = rgE (c.drop (k + 1)) := hE
      (repeat' (first | (with_reducible first | intro hg | refine mv (by constructor) ?_) | ((with_reducible first | refine zR ?_ ?_ | refine zW mixed ?_ ?_); exact kr) | ((with_reducible apply zK); exact rfl; exact tf) | ((with_reducible apply zCD); exact rfl) | ((with_reducible apply zCN); exact rfl) | ((with_reducible apply zC); exact rfl) | ((with_reducible refine zX ?_ ?_); exact rfl) | ((with_reducible refine zE (And.intro ?_ ?_)); exact kr) | (with_reducible refine zE ?_) | ((with_reducible apply zP); (first | exact o_indexF rg0 frC_len (by decide) rfl rfl (by omega) rfl | exact dp | exact oc rfl (w1) | exact oc rfl (w2))) | ((with_reducible apply zN); exact dn) | ((with_reducible apply zA); exact da) | ((with_reducible apply zS); exact ds) | ((with_reducible apply zY); exact rfl; exact rfl; exact tf) | ((with_reducible apply zG); exact rfl; exact rfl; exact tf) | ((with_reducible apply zU); exact rfl; exact rfl) | ((with_reducible apply zD); exact rfl; exact rfl) | ((with_reducible apply zB); exact rfl; exact rfl)))
      exact ⟨k + 1, ⟨hlt, hE⟩, by omega, (And.intro rfl (And.intro rfl trivial)), (And.intro rfl trivial)⟩
    · rw [decide_eq_false hle] at hE
      have hE : rgE c = 9 := hE
      rw [hE]
      (repeat' (first | (with_reducible first | intro hg | refine mv (by constructor) ?_) | ((with_reducible first | refine zR ?_ ?_ | refine zW mixed ?_ ?_); exact kr) | ((with_reducible apply zK); exact rfl; exact tf) | ((with_reducible apply zCD); exact rfl) | ((with_reducible apply zCN); exact rfl) | ((with_reducible apply zC); exact rfl) | ((with_reducible refine zX ?_ ?_); exact rfl) | ((with_reducible refine zE (And.intro ?_ ?_)); exact kr) | (with_reducible refine zE ?_) | ((with_reducible apply zP); (first | exact o_indexF rg0 frC_len (by decide) rfl rfl (by omega) rfl | exact dp | exact oc rfl (w1) | exact oc rfl (w2))) | ((with_reducible apply zN); exact dn) | ((with_reducible apply zA); exact da) | ((with_reducible apply zS); exact ds) | ((with_reducible apply zY); exact rfl; exact rfl; exact tf) | ((with_reducible apply zG); exact rfl; exact rfl; exact tf) | ((with_reducible apply zU); exact rfl; exact rfl) | ((with_reducible apply zD); exact rfl; exact rfl) | ((with_reducible apply zB); exact rfl; exact rfl)))
      ((with_reducible first | apply q_retR | apply q_retN); exact rl)
      rfl
  · rw [List.drop_of_length_le (by omega)] at hE
    have hE : rgE c = 0 := hE
    have w3 := bwithin_A den 1 10
    rw [hE]
    show AWp _ _ _ (ASeq _ (ABlock _ (ASeq _ (ARet _ _ (I (unl (inR den 1 10) 2)))))) _
    cases hb : inR den 1 10
    all_goals
      rw [hb] at w3
      exact zF
theorem any_drop {xs : List Int} {p : Int → Bool} {k : Nat} (h : k < xs.length) : (xs.drop k).any p = (p (nth xs k) || (xs.drop (k + 1)).any p) := by
  rw [drop_getD h]; rfl
def sxE (c : List Rg) (x : List Int) : Int := fst0 [unl (decide ((x.length : Int) = (c.length : Int))) 10, unl (!x.any fun n => !inR n (-100) 100) 2]
theorem qstartErr_A (c : List Rg) (den : Int) (x : List Int) (hm : c.length ≤ 140737488355328) (hx : x.length ≤ 140737488355328) : AC Tryz.prog 16 [loV c den, isl x] (I (sxE c x)) := by
  unfold sxE
  by_cases hl : (x.length : Int) = (c.length : Int)
  rotate_left
  · rw [decide_eq_false hl]
    refine ac_body Tryz.func16 rfl (by kernel_rfl) fun w0 ok => ?_; show AWp _ (ctx0 w0 ok _) _ (ARet _ _ _) (entry _)
    exact zF
  have e : fst0 [unl (decide ((x.length : Int) = (c.length : Int))) 10, unl (!x.any fun n => !inR n (-100) 100) 2] = unl (!x.any fun n => !inR n (-100) 100) 2 := by rw [decide_eq_true hl]; exact (fst0_zero _).trans (fst0_one _)
  rw [e]
  refine ac_body Tryz.func16 rfl (by kernel_rfl) fun w0 ok => ?_; show AWp _ (ctx0 w0 ok _) _ (ARet _ _ _) (entry _)
  (repeat' (first | (with_reducible first | intro hg | refine mv (by constructor) ?_) | ((with_reducible first | refine zR ?_ ?_ | refine zW mixed ?_ ?_); exact kr) | ((with_reducible apply zK); exact rfl; exact tf) | ((with_reducible apply zCD); exact rfl) | ((with_reducible apply zCN); exact rfl) | ((with_reducible apply zC); exact rfl) | ((with_reducible refine zX ?_ ?_); exact rfl) | ((with_reducible refine zE (And.intro ?_ ?_)); exact kr) | (with_reducible refine zE ?_) | ((with_reducible apply zP); exact dp) | ((with_reducible apply zN); exact dn) | ((with_reducible apply zA); exact da) | ((with_reducible apply zS); exact ds) | ((with_reducible apply zY); exact rfl; exact rfl; exact tf) | ((with_reducible apply zG); exact rfl; exact rfl; exact tf) | ((with_reducible apply zU); exact rfl; exact rfl) | ((with_reducible apply zD); exact rfl; exact rfl) | ((with_reducible apply zB); exact rfl; exact rfl)))
  refine awp_loopL (α := Nat) (fun k => [(1, .d (isl x)), (5, .d (I k))]) (fun _ => []) (fun k => k ≤ x.length ∧ (x.any fun n => !inR n (-100) 100) = ((x.drop k).any fun n => !inR n (-100) 100)) (fun k => x.length - k) 0 ⟨Nat.zero_le _, rfl⟩ (And.intro rfl (And.intro rfl trivial)) trivial fun k ⟨hk, hE⟩ => ?_
  by_cases hlt : k < x.length
  · rw [any_drop hlt] at hE
    have w := bwithin_A (nth x k) (-100) 100
    cases hb : inR (nth x k) (-100) 100
    · rw [hb] at w hE
      have hE : (x.any fun n => !inR n (-100) 100) = true := hE
      rw [hE]
      exact zF
    · rw [hb] at w hE
      (repeat' (first | (with_reducible first | intro hg | refine mv (by constructor) ?_) | ((with_reducible first | refine zR ?_ ?_ | refine zW mixed ?_ ?_); exact kr) | ((with_reducible apply zK); exact rfl; exact tf) | ((with_reducible apply zCD); exact rfl) | ((with_reducible apply zCN); exact rfl) | ((with_reducible apply zC); exact rfl) | ((with_reducible refine zX ?_ ?_); exact rfl) | ((with_reducible refine zE (And.intro ?_ ?_)); exact kr) | (with_reducible refine zE ?_) | ((with_reducible apply zP); (first | exact dp | exact oc rfl (w))) | ((with_reducible apply zN); exact dn) | ((with_reducible apply zA); exact da) | ((with_reducible apply zS); exact ds) | ((with_reducible apply zY); exact rfl; exact rfl; exact tf) | ((with_reducible apply zG); exact rfl; exact rfl; exact tf) | ((with_reducible apply zU); exact rfl; exact rfl) | ((with_reducible apply zD); exact rfl; exact rfl) | ((with_reducible apply zB); exact rfl; exact rfl)))
      exact ⟨k + 1, ⟨hlt, hE⟩, by omega, (And.intro rfl (And.intro rfl trivial)), trivial⟩
  · rw [List.drop_of_length_le (by omega)] at hE
    have hE : (x.any fun n => !inR n (-100) 100) = false := hE
    rw [hE]
    exact zF
def ckE (c : List Rg) (cs : List (List Int)) : Int := bif decide ((cs.length : Int) ≤ 8) then cfE c cs else 8
theorem qcoefsErr_A (c : List Rg) (den : Int) (cs : List (List Int)) (hm : c.length ≤ 140737488355328) (h3 : cs.length ≤ 140737488355328) (h4 : ∀ r ∈ cs, r.length ≤ 140737488355328) : AC Tryz.prog 17 [loV c den, llV cs] (I (ckE c cs)) := by
  by_cases h8 : (cs.length : Int) ≤ 8
  rotate_left
  · have e : ckE c cs = 8 := by unfold ckE; rw [decide_eq_false h8]; rfl
    rw [e]
    refine ac_body Tryz.func17 rfl (by kernel_rfl) fun w0 ok => ?_; show AWp _ (ctx0 w0 ok _) _ (ARet _ _ _) (entry _)
    exact zF
  have e : ckE c cs = cfE c cs := by unfold ckE; rw [decide_eq_true h8]; rfl
  rw [e]
  refine ac_body Tryz.func17 rfl (by kernel_rfl) fun w0 ok => ?_; show AWp _ (ctx0 w0 ok _) _ (ARet _ _ _) (entry _)
  (repeat' (first | (with_reducible first | intro hg | refine mv (by constructor) ?_) | ((with_reducible first | refine zR ?_ ?_ | refine zW mixed ?_ ?_); exact kr) | ((with_reducible apply zK); exact rfl; exact tf) | ((with_reducible apply zCD); exact rfl) | ((with_reducible apply zCN); exact rfl) | ((with_reducible apply zC); exact rfl) | ((with_reducible refine zX ?_ ?_); exact rfl) | ((with_reducible refine zE (And.intro ?_ ?_)); exact kr) | (with_reducible refine zE ?_) | ((with_reducible apply zP); exact dp) | ((with_reducible apply zN); exact dn) | ((with_reducible apply zA); exact da) | ((with_reducible apply zS); exact ds) | ((with_reducible apply zY); exact rfl; exact rfl; exact tf) | ((with_reducible apply zG); exact rfl; exact rfl; exact tf) | ((with_reducible apply zU); exact rfl; exact rfl) | ((with_reducible apply zD); exact rfl; exact rfl) | ((with_reducible apply zB); exact rfl; exact rfl)))
  refine awp_loopL (α := Nat) (fun t => [(1, .d (llV cs)), (2, .ptr 2 0), (5, .d (I t))]) (fun _ => [(2, ⟨24, [rgV c, I den]⟩)]) (fun t => t ≤ cs.length ∧ cfE c cs = cfE c (cs.drop t)) (fun t => cs.length - t) 0 ⟨Nat.zero_le _, rfl⟩ (And.intro rfl (And.intro rfl (And.intro rfl trivial))) (And.intro rfl trivial) fun t ⟨ht, hE⟩ => ?_
  by_cases htl : t < cs.length
  rotate_left
  · rw [List.drop_of_length_le (by omega)] at hE
    have hE : cfE c cs = 0 := hE
    rw [hE]
    exact zF
  rw [cfE_drop htl] at hE
  have hrl : (cs.getD t []).length ≤ 140737488355328 := h4 _ (by rw [List.getD_eq_getElem?_getD, List.getElem?_eq_getElem htl]; exact List.getElem_mem htl)
  by_cases hl : ((cs.getD t []).length : Int) = (c.length : Int)
  rotate_left
  · have e1 : cfE1 c (cs.getD t []) = 10 := by unfold cfE1; rw [decide_eq_false hl]; rfl
    rw [e1] at hE
    have hE : cfE c cs = 10 := hE
    rw [hE]
    (repeat' (first | (with_reducible first | intro hg | refine mv (by constructor) ?_) | ((with_reducible first | refine zR ?_ ?_ | refine zW mixed ?_ ?_); exact kr) | ((with_reducible apply zK); exact rfl; exact tf) | ((with_reducible apply zCD); exact rfl) | ((with_reducible apply zCN); exact rfl) | ((with_reducible apply zC); exact rfl) | ((with_reducible refine zX ?_ ?_); exact rfl) | ((with_reducible refine zE (And.intro ?_ ?_)); exact kr) | (with_reducible refine zE ?_) | ((with_reducible apply zP); (first | exact o_indexF [] llC_len (by decide) rfl rfl (by omega) rfl | exact dp)) | ((with_reducible apply zN); exact dn) | ((with_reducible apply zA); exact da) | ((with_reducible apply zS); exact ds) | ((with_reducible apply zY); exact rfl; exact rfl; exact tf) | ((with_reducible apply zG); exact rfl; exact rfl; exact tf) | ((with_reducible apply zU); exact rfl; exact rfl) | ((with_reducible apply zD); exact rfl; exact rfl) | ((with_reducible apply zB); exact rfl; exact rfl)))
    ((with_reducible first | apply q_retR | apply q_retN); exact rl)
    rfl
  have e1 : cfE1 c (cs.getD t []) = rowE c (cs.getD t []) := by unfold cfE1; rw [decide_eq_true hl]; rfl
  rw [e1] at hE
  (repeat' (first | (with_reducible first | intro hg | refine mv (by constructor) ?_) | ((with_reducible first | refine zR ?_ ?_ | refine zW mixed ?_ ?_); exact kr) | ((with_reducible apply zK); exact rfl; exact tf) | ((with_reducible apply zCD); exact rfl) | ((with_reducible apply zCN); exact rfl) | ((with_reducible apply zC); exact rfl) | ((with_reducible refine zX ?_ ?_); exact rfl) | ((with_reducible refine zE (And.intro ?_ ?_)); exact kr) | (with_reducible refine zE ?_) | ((with_reducible apply zP); (first | exact o_indexF [] llC_len (by decide) rfl rfl (by omega) rfl | exact dp)) | ((with_reducible apply zN); exact dn) | ((with_reducible apply zA); exact da) | ((with_reducible apply zS); exact ds) | ((with_reducible apply zY); exact rfl; exact rfl; exact tf) | ((with_reducible apply zG); exact rfl; exact rfl; exact tf) | ((with_reducible apply zU); exact rfl; exact rfl) | ((with_reducible apply zD); exact rfl; exact rfl) | ((with_reducible apply zB); exact rfl; exact rfl)))
  refine awp_loopL (α := Nat) (fun i => [(1, .d (llV cs)), (2, .ptr 2 0), (5, .d (I t)), (6, .d (I i))]) (fun _ => [(2, ⟨24, [rgV c, I den]⟩)]) (fun i => i ≤ c.length ∧ rowE c (cs.getD t []) = rowE (c.drop i) ((cs.getD t []).drop i)) (fun i => c.length - i) 0 ⟨Nat.zero_le _, rfl⟩ (And.intro rfl (And.intro rfl (And.intro rfl (And.intro rfl trivial)))) (And.intro rfl trivial) fun i ⟨hi, hR⟩ => ?_
  by_cases hil : i < c.length
  · rw [rowE_drop hil (by omega)] at hR
    have w := bwithin_A (nth (cs.getD t []) i) (c.getD i rg0).1 (c.getD i rg0).2
    cases hb : inR (nth (cs.getD t []) i) (c.getD i rg0).1 (c.getD i rg0).2
    · rw [hb] at w hR
      have hR : rowE c (cs.getD t []) = 22 := hR
      rw [hR] at hE
      have hE : cfE c cs = 22 := hE
      rw [hE]
      (repeat' (first | (with_reducible first | intro hg | refine mv (by constructor) ?_) | ((with_reducible first | refine zR ?_ ?_ | refine zW mixed ?_ ?_); exact kr) | ((with_reducible apply zK); exact rfl; exact tf) | ((with_reducible apply zCD); exact rfl) | ((with_reducible apply zCN); exact rfl) | ((with_reducible apply zC); exact rfl) | ((with_reducible refine zX ?_ ?_); exact rfl) | ((with_reducible refine zE (And.intro ?_ ?_)); exact kr) | (with_reducible refine zE ?_) | ((with_reducible apply zP); (first | exact o_indexF [] llC_len (by decide) rfl rfl (by omega) rfl | exact o_indexF rg0 frC_len (by decide) rfl rfl (by omega) rfl | exact o_indexI (xs := cs.getD t []) (j := i) rfl rfl (by omega) rfl | exact dp | exact oc rfl (w))) | ((with_reducible apply zN); exact dn) | ((with_reducible apply zA); exact da) | ((with_reducible apply zS); exact ds) | ((with_reducible apply zY); exact rfl; exact rfl; exact tf) | ((with_reducible apply zG); exact rfl; exact rfl; exact tf) | ((with_reducible apply zU); exact rfl; exact rfl) | ((with_reducible apply zD); exact rfl; exact rfl) | ((with_reducible apply zB); exact rfl; exact rfl)))
      ((with_reducible first | apply q_retR | apply q_retN); exact rl)
      rfl
    · rw [hb] at w hR
      (repeat' (first | (with_reducible first | intro hg | refine mv (by constructor) ?_) | ((with_reducible first | refine zR ?_ ?_ | refine zW mixed ?_ ?_); exact kr) | ((with_reducible apply zK); exact rfl; exact tf) | ((with_reducible apply zCD); exact rfl) | ((with_reducible apply zCN); exact rfl) | ((with_reducible apply zC); exact rfl) | ((with_reducible refine zX ?_ ?_); exact rfl) | ((with_reducible refine zE (And.intro ?_ ?_)); exact kr) | (with_reducible refine zE ?_) | ((with_reducible apply zP); (first | exact o_indexF [] llC_len (by decide) rfl rfl (by omega) rfl | exact o_indexF rg0 frC_len (by decide) rfl rfl (by omega) rfl | exact o_indexI (xs := cs.getD t []) (j := i) rfl rfl (by omega) rfl | exact dp | exact oc rfl (w))) | ((with_reducible apply zN); exact dn) | ((with_reducible apply zA); exact da) | ((with_reducible apply zS); exact ds) | ((with_reducible apply zY); exact rfl; exact rfl; exact tf) | ((with_reducible apply zG); exact rfl; exact rfl; exact tf) | ((with_reducible apply zU); exact rfl; exact rfl) | ((with_reducible apply zD); exact rfl; exact rfl) | ((with_reducible apply zB); exact rfl; exact rfl)))
      exact ⟨i + 1, ⟨hil, hR⟩, by omega, (And.intro rfl (And.intro rfl (And.intro rfl (And.intro rfl trivial)))), (And.intro rfl trivial)⟩
  · rw [List.drop_of_length_le (by omega)] at hR
    have hR : rowE c (cs.getD t []) = 0 := hR
    rw [hR] at hE
    have hE : cfE c cs = cfE c (cs.drop (t + 1)) := hE
    (repeat' (first | (with_reducible first | intro hg | refine mv (by constructor) ?_) | ((with_reducible first | refine zR ?_ ?_ | refine zW mixed ?_ ?_); exact kr) | ((with_reducible apply zK); exact rfl; exact tf) | ((with_reducible apply zCD); exact rfl) | ((with_reducible apply zCN); exact rfl) | ((with_reducible apply zC); exact rfl) | ((with_reducible refine zX ?_ ?_); exact rfl) | ((with_reducible refine zE (And.intro ?_ ?_)); exact kr) | (with_reducible refine zE ?_) | ((with_reducible apply zP); (first | exact o_indexF [] llC_len (by decide) rfl rfl (by omega) rfl | exact dp)) | ((with_reducible apply zN); exact dn) | ((with_reducible apply zA); exact da) | ((with_reducible apply zS); exact ds) | ((with_reducible apply zY); exact rfl; exact rfl; exact tf) | ((with_reducible apply zG); exact rfl; exact rfl; exact tf) | ((with_reducible apply zU); exact rfl; exact rfl) | ((with_reducible apply zD); exact rfl; exact rfl) | ((with_reducible apply zB); exact rfl; exact rfl)))
    exact ⟨t + 1, ⟨htl, hE⟩, by omega, (And.intro rfl (And.intro rfl (And.intro rfl trivial))), (And.intro rfl trivial)⟩
abbrev prI (s : Int) (w : List Int) : List DV := [I s, isl w]
def pfE (c : List Rg) (s : Int) (w : List Int) : Int := fst0 [unl (inR s 1 6) 2, unl (decide ((w.length : Int) = (c.length : Int))) 10, unl (!w.any fun n => !inR n 1 10) 2]
theorem qproofErr_A (c : List Rg) (den s : Int) (w : List Int) (hm : c.length ≤ 140737488355328) (hw : w.length ≤ 140737488355328) : AC Tryz.prog 15 [loV c den, .agg (prI s w)] (I (pfE c s w)) := by
  unfold pfE
  have ws := bwithin_A s 1 6
  cases hs : inR s 1 6
  · rw [hs] at ws
    refine ac_body Tryz.func15 rfl (by kernel_rfl) fun w0 ok => ?_; show AWp _ (ctx0 w0 ok _) _ (ARet _ _ _) (entry _)
    exact zF
  rw [hs] at ws
  by_cases hl : (w.length : Int) = (c.length : Int)
  rotate_left
  · rw [decide_eq_false hl]
    refine ac_body Tryz.func15 rfl (by kernel_rfl) fun w0 ok => ?_; show AWp _ (ctx0 w0 ok _) _ (ARet _ _ _) (entry _)
    exact zF
  have e : fst0 [unl true 2, unl (decide ((w.length : Int) = (c.length : Int))) 10, unl (!w.any fun n => !inR n 1 10) 2] = unl (!w.any fun n => !inR n 1 10) 2 := by rw [decide_eq_true hl]; exact (fst0_zero _).trans ((fst0_zero _).trans (fst0_one _))
  rw [e]
  refine ac_body Tryz.func15 rfl (by kernel_rfl) fun w0 ok => ?_; show AWp _ (ctx0 w0 ok _) _ (ARet _ _ _) (entry _)
  (repeat' (first | (with_reducible first | intro hg | refine mv (by constructor) ?_) | ((with_reducible first | refine zR ?_ ?_ | refine zW mixed ?_ ?_); exact kr) | ((with_reducible apply zK); exact rfl; exact tf) | ((with_reducible apply zCD); exact rfl) | ((with_reducible apply zCN); exact rfl) | ((with_reducible apply zC); exact rfl) | ((with_reducible refine zX ?_ ?_); exact rfl) | ((with_reducible refine zE (And.intro ?_ ?_)); exact kr) | (with_reducible refine zE ?_) | ((with_reducible apply zP); (first | exact dp | exact oc rfl (ws))) | ((with_reducible apply zN); exact dn) | ((with_reducible apply zA); exact da) | ((with_reducible apply zS); exact ds) | ((with_reducible apply zY); exact rfl; exact rfl; exact tf) | ((with_reducible apply zG); exact rfl; exact rfl; exact tf) | ((with_reducible apply zU); exact rfl; exact rfl) | ((with_reducible apply zD); exact rfl; exact rfl) | ((with_reducible apply zB); exact rfl; exact rfl)))
  refine awp_loopL (α := Nat) (fun k => [(3, .ptr 3 0), (5, .d (I k))]) (fun _ => [(3, ⟨39, prI s w⟩)]) (fun k => k ≤ w.length ∧ (w.any fun n => !inR n 1 10) = ((w.drop k).any fun n => !inR n 1 10)) (fun k => w.length - k) 0 ⟨Nat.zero_le _, rfl⟩ (And.intro rfl (And.intro rfl trivial)) (And.intro rfl trivial) fun k ⟨hk, hE⟩ => ?_
  by_cases hlt : k < w.length
  · rw [any_drop hlt] at hE
    have w1 := bwithin_A (nth w k) 1 10
    cases hb : inR (nth w k) 1 10
    · rw [hb] at w1 hE
      have hE : (w.any fun n => !inR n 1 10) = true := hE
      rw [hE]
      exact zF
    · rw [hb] at w1 hE
      (repeat' (first | (with_reducible first | intro hg | refine mv (by constructor) ?_) | ((with_reducible first | refine zR ?_ ?_ | refine zW mixed ?_ ?_); exact kr) | ((with_reducible apply zK); exact rfl; exact tf) | ((with_reducible apply zCD); exact rfl) | ((with_reducible apply zCN); exact rfl) | ((with_reducible apply zC); exact rfl) | ((with_reducible refine zX ?_ ?_); exact rfl) | ((with_reducible refine zE (And.intro ?_ ?_)); exact kr) | (with_reducible refine zE ?_) | ((with_reducible apply zP); (first | exact dp | exact oc rfl (w1))) | ((with_reducible apply zN); exact dn) | ((with_reducible apply zA); exact da) | ((with_reducible apply zS); exact ds) | ((with_reducible apply zY); exact rfl; exact rfl; exact tf) | ((with_reducible apply zG); exact rfl; exact rfl; exact tf) | ((with_reducible apply zU); exact rfl; exact rfl) | ((with_reducible apply zD); exact rfl; exact rfl) | ((with_reducible apply zB); exact rfl; exact rfl)))
      exact ⟨k + 1, ⟨hlt, hE⟩, by omega, (And.intro rfl (And.intro rfl trivial)), (And.intro rfl trivial)⟩
  · rw [List.drop_of_length_le (by omega)] at hE
    have hE : (w.any fun n => !inR n 1 10) = false := hE
    rw [hE]
    exact zF
/-! Copies. -/
theorem copyRanges_A (c : List Rg) (hm : c.length ≤ 1000000) : AC Tryz.prog 42 [rgV c] (rgV c) := by
  have hl := rgS_len c
  by_cases h0 : c.length = 0
  · obtain rfl : c = [] := List.length_eq_zero_iff.1 h0
    refine ac_body Tryz.func42 rfl (by kernel_rfl) fun w0 ok => ?_; show AWp _ (ctx0 w0 ok _) _ (ARet _ _ _) (entry _)
    exact zF
  · refine ac_body Tryz.func42 rfl (by kernel_rfl) fun w0 ok => ?_; show AWp _ (ctx0 w0 ok _) _ (ARet _ _ _) (entry _)
    (repeat' (first | (with_reducible first | intro hg | refine mv (by constructor) ?_) | ((with_reducible first | refine zR ?_ ?_ | refine zW mixed ?_ ?_); exact kr) | ((with_reducible apply zK); exact rfl; exact tf) | ((with_reducible apply zCD); exact rfl) | ((with_reducible apply zCN); exact rfl) | ((with_reducible apply zC); exact rfl) | ((with_reducible refine zX ?_ ?_); exact rfl) | ((with_reducible refine zE (And.intro ?_ ?_)); exact kr) | (with_reducible refine zE ?_) | ((with_reducible apply zP); exact dp) | ((with_reducible apply zN); exact dn) | ((with_reducible apply zA); (first | ((apply o_app); (case hx => exact rfl); (case hm => exact rfl); (case hy => exact .own rfl rfl); (case hty => exact rfl); (case hl => solve | exact hl | rfl); (case hcl => solve | rfl | exact hl | simp); (case hpos => omega); (case hb => omega); (case hb2 => omega); (case hnew => exact rfl)) | ((apply o_app); (case hx => exact rfl); (case hm => exact rfl); (case hy => exact .sl rfl); (case hty => exact rfl); (case hl => solve | exact hl | rfl); (case hcl => solve | rfl | exact hl | simp); (case hpos => omega); (case hb => omega); (case hb2 => omega); (case hnew => exact rfl)) | exact da)) | ((with_reducible apply zS); exact ds) | ((with_reducible apply zY); exact rfl; exact rfl; exact tf) | ((with_reducible apply zG); exact rfl; exact rfl; exact tf) | ((with_reducible apply zU); exact rfl; exact rfl) | ((with_reducible apply zD); exact rfl; exact rfl) | ((with_reducible apply zB); exact rfl; exact rfl)))
    ((with_reducible first | apply q_retR | apply q_retN); exact rl)
    show DV.slice c.length (rgS c) = DV.slice (0 + c.length) ((([] ++ rgS c).drop 0).take ((0 + c.length) * 2))
    rw [Nat.zero_add, List.nil_append, List.drop_zero, List.take_of_length_le (by omega)]
theorem qcopy_A (c : List Rg) (den : Int) (hm : c.length ≤ 1000000) : AC Tryz.prog 8 [loV c den] (loV c den) := by
  refine ac_body Tryz.func8 rfl (by kernel_rfl) fun w0 ok => ?_; show AWp _ (ctx0 w0 ok _) _ (ARet _ _ _) (entry _)
  (repeat' (first | (with_reducible first | intro hg | refine mv (by constructor) ?_) | ((with_reducible first | refine zR ?_ ?_ | refine zW mixed ?_ ?_); exact kr) | ((with_reducible apply zK); exact rfl; exact tf) | ((with_reducible apply zCD); exact rfl) | ((with_reducible apply zCN); exact rfl) | ((with_reducible apply zC); exact rfl) | ((with_reducible refine zX ?_ ?_); exact rfl) | ((with_reducible refine zE (And.intro ?_ ?_)); exact kr) | (with_reducible refine zE ?_) | ((with_reducible apply zP); (first | exact dp | exact oc rfl (copyRanges_A c hm))) | ((with_reducible apply zN); exact dn) | ((with_reducible apply zA); exact da) | ((with_reducible apply zS); exact ds) | ((with_reducible apply zY); exact rfl; exact rfl; exact tf) | ((with_reducible apply zG); exact rfl; exact rfl; exact tf) | ((with_reducible apply zU); exact rfl; exact rfl) | ((with_reducible apply zD); exact rfl; exact rfl) | ((with_reducible apply zB); exact rfl; exact rfl)))
  ((with_reducible first | apply q_retR | apply q_retN); exact rl)
  rfl
theorem copyProof_A (s : Int) (w : List Int) (hw : w.length ≤ 1000000) : AC Tryz.prog 19 [.agg (prI s w)] (.agg (prI s w)) := by
  refine ac_body Tryz.func19 rfl (by kernel_rfl) fun w0 ok => ?_; show AWp _ (ctx0 w0 ok _) _ (ARet _ _ _) (entry _)
  (repeat' (first | (with_reducible first | intro hg | refine mv (by constructor) ?_) | ((with_reducible first | refine zR ?_ ?_ | refine zW mixed ?_ ?_); exact kr) | ((with_reducible apply zK); exact rfl; exact tf) | ((with_reducible apply zCD); exact rfl) | ((with_reducible apply zCN); exact rfl) | ((with_reducible apply zC); exact rfl) | ((with_reducible refine zX ?_ ?_); exact rfl) | ((with_reducible refine zE (And.intro ?_ ?_)); exact kr) | (with_reducible refine zE ?_) | ((with_reducible apply zP); (first | exact dp | exact oc rfl (copyInts_A w hw))) | ((with_reducible apply zN); exact dn) | ((with_reducible apply zA); exact da) | ((with_reducible apply zS); exact ds) | ((with_reducible apply zY); exact rfl; exact rfl; exact tf) | ((with_reducible apply zG); exact rfl; exact rfl; exact tf) | ((with_reducible apply zU); exact rfl; exact rfl) | ((with_reducible apply zD); exact rfl; exact rfl) | ((with_reducible apply zB); exact rfl; exact rfl)))
  ((with_reducible first | apply q_retR | apply q_retN); exact rl)
  rfl
theorem llS_snoc (l : List (List Int)) (r : List Int) : llS l ++ [isl r] = llS (l ++ [r]) := by simp [llS]
theorem takeD_succ {α : Type} (d : α) {l : List α} {k : Nat} (h : k < l.length) : l.take (k + 1) = l.take k ++ [l.getD k d] := by
  rw [List.take_add_one, List.getElem?_eq_getElem h, List.getD_eq_getElem?_getD, List.getElem?_eq_getElem h]; rfl
theorem copyLists_A (cs : List (List Int)) (h1 : cs.length ≤ 1000000) (h2 : ∀ r ∈ cs, r.length ≤ 1000000) : AC Tryz.prog 76 [llV cs] (llV cs) := by
  refine ac_body Tryz.func76 rfl (by kernel_rfl) fun w0 ok => ?_; show AWp _ (ctx0 w0 ok _) _ (ARet _ _ _) (entry _)
  (repeat' (first | (with_reducible first | intro hg | refine mv (by constructor) ?_) | ((with_reducible first | refine zR ?_ ?_ | refine zW mixed ?_ ?_); exact kr) | ((with_reducible apply zK); exact rfl; exact tf) | ((with_reducible apply zCD); exact rfl) | ((with_reducible apply zCN); exact rfl) | ((with_reducible apply zC); exact rfl) | ((with_reducible refine zX ?_ ?_); exact rfl) | ((with_reducible refine zE (And.intro ?_ ?_)); exact kr) | (with_reducible refine zE ?_) | ((with_reducible apply zP); exact dp) | ((with_reducible apply zN); exact dn) | ((with_reducible apply zA); exact da) | ((with_reducible apply zS); exact ds) | ((with_reducible apply zY); exact rfl; exact rfl; exact tf) | ((with_reducible apply zG); exact rfl; exact rfl; exact tf) | ((with_reducible apply zU); exact rfl; exact rfl) | ((with_reducible apply zD); exact rfl; exact rfl) | ((with_reducible apply zB); exact rfl; exact rfl)))
  refine awp_loopL (α := Nat) (fun k => [(0, .d (llV cs)), (3, ownZ 18 1 k), (4, .d (I k))]) (fun k => ownM 18 37 (llS (cs.take k)) k) (fun k => k ≤ cs.length) (fun k => cs.length - k) 0 (Nat.zero_le _) (And.intro rfl (And.intro rfl (And.intro rfl trivial))) trivial fun k hk => ?_
  have hln := llS_len (cs.take k)
  rw [List.length_take, Nat.min_eq_left hk] at hln
  by_cases hlt : k < cs.length
  rotate_left
  · obtain rfl : k = cs.length := by omega
    rw [List.take_length] at hln
    rw [List.take_length]
    refine awp_ownZ 3 18 1 (t := 37) (llS cs) (by omega) rfl (fun k hk => by rw [hk]; rfl) ?_
    exact zF
  have w := copyInts_A (cs.getD k []) (h2 _ (by rw [List.getD_eq_getElem?_getD, List.getElem?_eq_getElem hlt]; exact List.getElem_mem hlt))
  have hsn : llS (cs.take k) ++ [isl (cs.getD k [])] = llS (cs.take (k + 1)) := by rw [takeD_succ [] hlt]; exact llS_snoc _ _
  rcases k with _ | k
  · (repeat' (first | (with_reducible first | intro hg | refine mv (by constructor) ?_) | ((with_reducible first | refine zR ?_ ?_ | refine zW mixed ?_ ?_); exact kr) | ((with_reducible apply zK); exact rfl; exact tf) | ((with_reducible apply zCD); exact rfl) | ((with_reducible apply zCN); exact rfl) | ((with_reducible apply zC); exact rfl) | ((with_reducible refine zX ?_ ?_); exact rfl) | ((with_reducible refine zE (And.intro ?_ ?_)); exact kr) | (with_reducible refine zE ?_) | ((with_reducible apply zP); (first | exact o_indexF [] (j := 0) llC_len (by decide) rfl rfl (by omega) rfl | exact dp | exact oc rfl (w))) | ((with_reducible apply zN); exact dn) | ((with_reducible apply zA); exact da) | ((with_reducible apply zS); exact ds) | ((with_reducible apply zY); exact rfl; exact rfl; exact tf) | ((with_reducible apply zG); exact rfl; exact rfl; exact tf) | ((with_reducible apply zU); exact rfl; exact rfl) | ((with_reducible apply zD); exact rfl; exact rfl) | ((with_reducible apply zB); exact rfl; exact rfl)))
    exact ⟨1, hlt, by omega, (And.intro rfl (And.intro rfl (And.intro rfl trivial))), (And.intro (congrArg (fun l => some (Blk.mk _ l)) hsn) trivial)⟩
  · have hln : (llS (cs.take (k + 1))).length = (k + 1) * 1 := by omega
    (repeat' (first | (with_reducible first | intro hg | refine mv (by constructor) ?_) | ((with_reducible first | refine zR ?_ ?_ | refine zW mixed ?_ ?_); exact kr) | ((with_reducible apply zK); exact rfl; exact tf) | ((with_reducible apply zCD); exact rfl) | ((with_reducible apply zCN); exact rfl) | ((with_reducible apply zC); exact rfl) | ((with_reducible refine zX ?_ ?_); exact rfl) | ((with_reducible refine zE (And.intro ?_ ?_)); exact kr) | (with_reducible refine zE ?_) | ((with_reducible apply zP); (first | exact o_indexF [] (j := k + 1) llC_len (by decide) rfl rfl (by omega) rfl | exact dp | exact oc rfl (w))) | ((with_reducible apply zN); exact dn) | ((with_reducible apply zA); (first | ((apply o_app); (case hx => exact rfl); (case hm => exact rfl); (case hy => exact .own rfl rfl); (case hty => exact rfl); (case hl => solve | exact hln | rfl); (case hcl => solve | rfl | exact hln | simp); (case hpos => omega); (case hb => omega); (case hb2 => omega); (case hnew => exact rfl)) | ((apply o_app); (case hx => exact rfl); (case hm => exact rfl); (case hy => exact .sl rfl); (case hty => exact rfl); (case hl => solve | exact hln | rfl); (case hcl => solve | rfl | exact hln | simp); (case hpos => omega); (case hb => omega); (case hb2 => omega); (case hnew => exact rfl)) | exact da)) | ((with_reducible apply zS); exact ds) | ((with_reducible apply zY); exact rfl; exact rfl; exact tf) | ((with_reducible apply zG); exact rfl; exact rfl; exact tf) | ((with_reducible apply zU); exact rfl; exact rfl) | ((with_reducible apply zD); exact rfl; exact rfl) | ((with_reducible apply zB); exact rfl; exact rfl)))
    exact ⟨k + 2, hlt, by omega, (And.intro rfl (And.intro rfl (And.intro rfl trivial))), (And.intro (congrArg (fun l => some (Blk.mk _ l)) hsn) trivial)⟩
theorem copyGrowth_A (x : List Int) (cs : List (List Int)) (h0 : x.length ≤ 1000000) (h1 : cs.length ≤ 1000000) (h2 : ∀ r ∈ cs, r.length ≤ 1000000) : AC Tryz.prog 31 [.agg [isl x, llV cs]] (.agg [isl x, llV cs]) := by
  refine ac_body Tryz.func31 rfl (by kernel_rfl) fun w0 ok => ?_; show AWp _ (ctx0 w0 ok _) _ (ARet _ _ _) (entry _)
  (repeat' (first | (with_reducible first | intro hg | refine mv (by constructor) ?_) | ((with_reducible first | refine zR ?_ ?_ | refine zW mixed ?_ ?_); exact kr) | ((with_reducible apply zK); exact rfl; exact tf) | ((with_reducible apply zCD); exact rfl) | ((with_reducible apply zCN); exact rfl) | ((with_reducible apply zC); exact rfl) | ((with_reducible refine zX ?_ ?_); exact rfl) | ((with_reducible refine zE (And.intro ?_ ?_)); exact kr) | (with_reducible refine zE ?_) | ((with_reducible apply zP); (first | exact dp | exact oc rfl (copyInts_A x h0) | exact oc rfl (copyLists_A cs h1 h2))) | ((with_reducible apply zN); exact dn) | ((with_reducible apply zA); exact da) | ((with_reducible apply zS); exact ds) | ((with_reducible apply zY); exact rfl; exact rfl; exact tf) | ((with_reducible apply zG); exact rfl; exact rfl; exact tf) | ((with_reducible apply zU); exact rfl; exact rfl) | ((with_reducible apply zD); exact rfl; exact rfl) | ((with_reducible apply zB); exact rfl; exact rfl)))
  ((with_reducible first | apply q_retR | apply q_retN); exact rl)
  rfl
/-! What laws ask of their arguments. -/
end Go.Proofs.YtfcfmpdpjmbcnaaGreatDoor
