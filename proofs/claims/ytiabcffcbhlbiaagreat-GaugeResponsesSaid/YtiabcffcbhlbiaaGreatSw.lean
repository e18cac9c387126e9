/- The reference's gain bound. -/
import Derived.Test.YtiabcffcbhlbiaaGreatSv
set_option linter.unusedVariables false
set_option linter.unusedSimpArgs false
namespace Go.Proofs.YtiabcffcbhlbiaaGreat
open Go.RowKit
set_option maxRecDepth 20000
set_option maxHeartbeats 16000000

theorem qbound_A (c : List Rg) (den : Int) (hL : LoopOk c den) (m : Nat) (w : List Int) (hp : PrfOk c.length (m + 1) w) (hn : nrm c den (m + 1) w < 1) : AC Tryz.prog 91 [loV c den, .agg (prfC (m + 1) w)] (ratV (gnB den (losL c) w c.length (m + 1) (nrm c den (m + 1) w))) := by
  have hl1 := hL.l1
  have hl3 := hL.l3
  have hm6 := hp.s6
  have hwl := hp.l
  have hw : ∀ i, i < c.length → 1 ≤ nth w i ∧ nth w i ≤ 10 := fun i hi => hp.w _ (nth_mem (by omega))
  have wr := response_A c den hL (m + 1) (by omega)
  have wN := qnorm_A c den hL (m + 1) w hp
  have hNS := nrm_ratS hL hp
  have z0 := ratioInt_A 0 ⟨by decide, by decide⟩
  have z1 := ratioInt_A 1 ⟨by decide, by decide⟩
  have hrl := rspL_len den c (m + 1 + 1)
  have hrg := fun (t : Nat) (ht : t < m + 1 + 1) => rspL_get den c ht
  have hrS := fun (t : Nat) (ht : t ≤ 8) => rsp_S hL ht
  have hwn : ∀ i, i < c.length → ((nth w i : Int) : Rat) ≠ 0 := fun i hi => by
    have := (hw i hi).1
    exact_mod_cast (show nth w i ≠ 0 by omega)
  have hwS : ∀ i, i < c.length → RatS 3 ((nth w i : Int) : Rat) := fun i hi => int_ratS (by have := hw i hi; omega)
  have hdS : ∀ t, t ≤ 8 → ∀ j, j < c.length → RatS 6 (absR ((rst den (losL c) t).getD j 0) / ((nth w j : Int) : Rat)) := fun t ht j hj => by
    have h1 : RatS 3 (absR ((rst den (losL c) t).getD j 0)) := by
      by_cases hjt : j ≤ t
      · rw [rst_get den (losL c) hjt]; exact absR_S (hrS _ (by omega))
      · rw [List.getD_eq_getElem?_getD, List.getElem?_eq_none (by rw [rst_len]; omega)]
        exact (int_ratS (n := 0) (by decide) : RatS 3 ((0 : Int) : Rat))
    exact h1.div (hwS j hj) (hwn j hj)
  have hvS : ∀ t, t ≤ 8 → RatS 6 (wtR w (rst den (losL c) t) c.length) := fun t ht => wtR_S fun j hj => hdS t ht j hj
  have hsS : ∀ t, t ≤ m + 1 → RatS 2000 (sumQ (fun t => wtR w (rst den (losL c) t) c.length) t) := fun t ht => (sum_S7 fun k hk => hvS k (by omega)).mono (kR7_le (by omega))
  refine ac_body Tryz.func91 rfl (by kernel_rfl) fun w0 ok => ?_; show AWp _ (ctx0 w0 ok _) _ (ARet _ _ _) (entry _)
  (repeat' (first | (with_reducible first | intro hg | refine mv (by constructor) ?_) | ((with_reducible first | refine zR ?_ ?_ | refine zW mixed ?_ ?_); exact kr) | ((with_reducible apply zK); exact rfl; exact tf) | ((with_reducible apply zCD); exact rfl) | ((with_reducible apply zCN); exact rfl) | ((with_reducible apply zC); exact rfl) | ((with_reducible refine zX ?_ ?_); exact rfl) | ((with_reducible refine zE (And.intro ?_ ?_)); exact kr) | (with_reducible refine zE ?_) | ((with_reducible apply zP); (first | exact dp | exact oc rfl (wr) | exact oc rfl (z0))) | ((with_reducible apply zN); exact dn) | ((with_reducible apply zA); exact da) | ((with_reducible apply zS); exact ds) | ((with_reducible apply zY); exact rfl; exact rfl; exact tf) | ((with_reducible apply zG); exact rfl; exact rfl; exact tf) | ((with_reducible apply zU); exact rfl; exact rfl) | ((with_reducible apply zD); exact rfl; exact rfl) | ((with_reducible apply zB); exact rfl; exact rfl)))
  refine awp_loopL (α := Nat) (fun t => [(2, .ptr 2 0), (3, .ptr 3 0), (4, .ptr 4 0), (5, .d (.slice (m + 1 + 1) (raS (rspL den c (m + 1 + 1))))), (6, .ptr 6 0), (7, .d (I t))]) (fun t => [(2, ⟨24, [rgV c, I den]⟩), (3, ⟨54, prfC (m + 1) w⟩), (4, ⟨78, [I 0, nilV, I 0, nilV]⟩), (6, ⟨78, ratC (sumQ (fun t => wtR w (rst den (losL c) t) c.length) t)⟩)]) (fun t => t ≤ m + 1) (fun t => m + 1 - t) 0 (Nat.zero_le _) (And.intro rfl (And.intro rfl (And.intro rfl (And.intro rfl (And.intro rfl (And.intro rfl trivial)))))) (And.intro rfl (And.intro rfl (And.intro rfl (And.intro rfl trivial)))) fun t ht => ?_
  by_cases htl : t < m + 1
  · clear wr wN hNS z1
    have ht8 : t ≤ 8 := by omega
    have hd8 := hdS t ht8
    have ha := ratioAdd_A ((hsS t (by omega)).mono (by decide)) ((hvS t ht8).mono (by decide))
    have hsu : sumQ (fun t => wtR w (rst den (losL c) t) c.length) (t + 1) = sumQ (fun t => wtR w (rst den (losL c) t) c.length) t + wtR w (rst den (losL c) t) c.length := rfl
    rw [← hsu] at ha
    clear hsS hdS hvS
    (repeat' (first | (with_reducible first | intro hg | refine mv (by constructor) ?_) | ((with_reducible first | refine zR ?_ ?_ | refine zW mixed ?_ ?_); exact kr) | ((with_reducible apply zK); exact rfl; exact tf) | ((with_reducible apply zCD); exact rfl) | ((with_reducible apply zCN); exact rfl) | ((with_reducible apply zC); exact rfl) | ((with_reducible refine zX ?_ ?_); exact rfl) | ((with_reducible refine zE (And.intro ?_ ?_)); exact kr) | (with_reducible refine zE ?_) | ((with_reducible apply zP); (first | exact dp | exact oc rfl (z0))) | ((with_reducible apply zN); exact dn) | ((with_reducible apply zA); exact da) | ((with_reducible apply zS); exact ds) | ((with_reducible apply zY); exact rfl; exact rfl; exact tf) | ((with_reducible apply zG); exact rfl; exact rfl; exact tf) | ((with_reducible apply zU); exact rfl; exact rfl) | ((with_reducible apply zD); exact rfl; exact rfl) | ((with_reducible apply zB); exact rfl; exact rfl)))
    refine awp_loopL (α := Nat) (fun i => [(2, .ptr 2 0), (3, .ptr 3 0), (4, .ptr 4 0), (5, .d (.slice (m + 1 + 1) (raS (rspL den c (m + 1 + 1))))), (6, .ptr 6 0), (7, .d (I t)), (8, .ptr 8 0), (9, .d (I i))]) (fun i => [(2, ⟨24, [rgV c, I den]⟩), (3, ⟨54, prfC (m + 1) w⟩), (4, ⟨78, [I 0, nilV, I 0, nilV]⟩), (6, ⟨78, ratC (sumQ (fun t => wtR w (rst den (losL c) t) c.length) t)⟩), (8, ⟨78, ratC (wtR w (rst den (losL c) t) i)⟩)]) (fun i => i ≤ c.length ∧ i ≤ t + 1) (fun i => c.length - i) 0 ⟨Nat.zero_le _, Nat.zero_le _⟩ (And.intro rfl (And.intro rfl (And.intro rfl (And.intro rfl (And.intro rfl (And.intro rfl (And.intro rfl (And.intro rfl trivial)))))))) (And.intro rfl (And.intro rfl (And.intro rfl (And.intro rfl (And.intro rfl trivial))))) fun i ⟨hi, hit⟩ => ?_
    by_cases hil : i < c.length ∧ i < t + 1
    · obtain ⟨hil, hitl⟩ := hil
      have hgi := rst_get den (losL c) (t := t) (i := i) (by omega)
      have hrd := hrg (t - i) (by omega)
      have hri := hrS (t - i) (by omega)
      have hwi := hw i hil
      have u1 := qsize_A (rsp den (losL c) (t - i))
      have u2 := ratioInt_A (nth w i) ⟨by omega, by omega⟩
      have u3 := ratioDiv_A ((absR_S hri).mono (l := 10000) (by decide)) ((hwS i hil).mono (l := 10000) (by decide)) (hwn i hil)
      have hmS : RatS 6 (wtR w (rst den (losL c) t) i) := wtR_S fun j hj => hd8 j (by omega)
      have hqS := hd8 i hil
      rw [hgi] at hqS
      have u4 := ratioCmp_A (hqS.mono (l := 10000) (by decide)) (hmS.mono (l := 10000) (by decide))
      have hcp := cmpR_pos (p := absR (rsp den (losL c) (t - i)) / ((nth w i : Int) : Rat)) (q := wtR w (rst den (losL c) t) i)
      have hdef : wtR w (rst den (losL c) t) (i + 1) = bif decide (wtR w (rst den (losL c) t) i < absR (rsp den (losL c) (t - i)) / ((nth w i : Int) : Rat)) then absR (rsp den (losL c) (t - i)) / ((nth w i : Int) : Rat) else wtR w (rst den (losL c) t) i := by
        rw [← hgi]; rfl
      rw [show ratV (rsp den (losL c) (t - i)) = ratV ((rspL den c (m + 1 + 1)).getD (t - i) 0) by rw [hrd]] at u1
      have hti : (t : Int) - i = ((t - i : Nat) : Int) := by omega
      clear hgi hrd hri hmS hqS hd8 hrg hrS hwn hwS ha hsu
      by_cases hlt : wtR w (rst den (losL c) t) i < absR (rsp den (losL c) (t - i)) / ((nth w i : Int) : Rat)
      · rw [decide_eq_true hlt] at hdef
        have hdef : wtR w (rst den (losL c) t) (i + 1) = absR (rsp den (losL c) (t - i)) / ((nth w i : Int) : Rat) := hdef
        have hc0 := hcp.2 hlt
        clear hcp hlt
        generalize cmpR (absR (rsp den (losL c) (t - i)) / ((nth w i : Int) : Rat)) (wtR w (rst den (losL c) t) i) = z at *
        generalize absR (rsp den (losL c) (t - i)) / ((nth w i : Int) : Rat) = q at *
        (repeat' (first | (with_reducible first | intro hg | refine mv (by constructor) ?_) | ((with_reducible first | refine zR ?_ ?_ | refine zW mixed ?_ ?_); exact kr) | ((with_reducible apply zK); exact rfl; exact tf) | ((with_reducible apply zCD); exact rfl) | ((with_reducible apply zCN); exact rfl) | ((with_reducible apply zC); exact rfl) | ((with_reducible refine zX ?_ ?_); exact rfl) | ((with_reducible refine zE (And.intro ?_ ?_)); exact kr) | (with_reducible refine zE ?_) | ((with_reducible apply zP); (first | exact o_indexF (0 : Rat) (f := ratC) (xs := rspL den c (m + 1 + 1)) (j := t - i) ratC_len (by decide) rfl (congrArg (fun n : Int => AV.d (I n)) hti) (by omega) (by omega) | exact o_indexI (xs := w) (j := i) rfl rfl (by omega) rfl | exact dp | exact oc rfl (u1) | exact oc rfl (u2) | exact oc rfl (u3) | exact oc rfl (u4))) | ((with_reducible apply zN); exact dn) | ((with_reducible apply zA); exact da) | ((with_reducible apply zS); exact ds) | ((with_reducible apply zY); exact rfl; exact rfl; exact tf) | ((with_reducible apply zG); exact rfl; exact rfl; exact tf) | ((with_reducible apply zU); exact rfl; exact rfl) | ((with_reducible apply zD); exact rfl; exact rfl) | ((with_reducible apply zB); exact rfl; exact rfl)))
        exact ⟨i + 1, ⟨hil, hitl⟩, by omega, (And.intro rfl (And.intro rfl (And.intro rfl (And.intro rfl (And.intro rfl (And.intro rfl (And.intro rfl (And.intro rfl trivial)))))))), (And.intro rfl (And.intro rfl (And.intro rfl (And.intro rfl (And.intro (congrArg (fun r => some (Blk.mk 78 (ratC r))) hdef.symm) trivial)))))⟩
      · rw [decide_eq_false hlt] at hdef
        have hdef : wtR w (rst den (losL c) t) (i + 1) = wtR w (rst den (losL c) t) i := hdef
        have hc0 : ¬ 0 < cmpR (absR (rsp den (losL c) (t - i)) / ((nth w i : Int) : Rat)) (wtR w (rst den (losL c) t) i) := fun h => hlt (hcp.1 h)
        clear hcp hlt
        generalize cmpR (absR (rsp den (losL c) (t - i)) / ((nth w i : Int) : Rat)) (wtR w (rst den (losL c) t) i) = z at *
        generalize absR (rsp den (losL c) (t - i)) / ((nth w i : Int) : Rat) = q at *
        (repeat' (first | (with_reducible first | intro hg | refine mv (by constructor) ?_) | ((with_reducible first | refine zR ?_ ?_ | refine zW mixed ?_ ?_); exact kr) | ((with_reducible apply zK); exact rfl; exact tf) | ((with_reducible apply zCD); exact rfl) | ((with_reducible apply zCN); exact rfl) | ((with_reducible apply zC); exact rfl) | ((with_reducible refine zX ?_ ?_); exact rfl) | ((with_reducible refine zE (And.intro ?_ ?_)); exact kr) | (with_reducible refine zE ?_) | ((with_reducible apply zP); (first | exact o_indexF (0 : Rat) (f := ratC) (xs := rspL den c (m + 1 + 1)) (j := t - i) ratC_len (by decide) rfl (congrArg (fun n : Int => AV.d (I n)) hti) (by omega) (by omega) | exact o_indexI (xs := w) (j := i) rfl rfl (by omega) rfl | exact dp | exact oc rfl (u1) | exact oc rfl (u2) | exact oc rfl (u3) | exact oc rfl (u4))) | ((with_reducible apply zN); exact dn) | ((with_reducible apply zA); exact da) | ((with_reducible apply zS); exact ds) | ((with_reducible apply zY); exact rfl; exact rfl; exact tf) | ((with_reducible apply zG); exact rfl; exact rfl; exact tf) | ((with_reducible apply zU); exact rfl; exact rfl) | ((with_reducible apply zD); exact rfl; exact rfl) | ((with_reducible apply zB); exact rfl; exact rfl)))
        exact ⟨i + 1, ⟨hil, hitl⟩, by omega, (And.intro rfl (And.intro rfl (And.intro rfl (And.intro rfl (And.intro rfl (And.intro rfl (And.intro rfl (And.intro rfl trivial)))))))), (And.intro rfl (And.intro rfl (And.intro rfl (And.intro rfl (And.intro (congrArg (fun r => some (Blk.mk 78 (ratC r))) hdef.symm) trivial)))))⟩
    have hend : wtR w (rst den (losL c) t) i = wtR w (rst den (losL c) t) c.length := by
      by_cases e : i = c.length
      · rw [e]
      · obtain rfl : i = t + 1 := by omega
        exact (wtR_zero w _ (fun j hj => by rw [List.getD_eq_getElem?_getD, List.getElem?_eq_none (by rw [rst_len]; omega)]; rfl) c.length (by omega)).symm
    rw [hend]
    clear hend hd8 hrg hrS hwn hwS hsu
    generalize wtR w (rst den (losL c) t) c.length = q at *
    obtain ⟨S1, hS1⟩ : ∃ S1, S1 = sumQ (fun t => wtR w (rst den (losL c) t) c.length) (t + 1) := ⟨_, rfl⟩
    rw [← hS1] at ha
    (repeat' (first | (with_reducible first | intro hg | refine mv (by constructor) ?_) | ((with_reducible first | refine zR ?_ ?_ | refine zW mixed ?_ ?_); exact kr) | ((with_reducible apply zK); exact rfl; exact tf) | ((with_reducible apply zCD); exact rfl) | ((with_reducible apply zCN); exact rfl) | ((with_reducible apply zC); exact rfl) | ((with_reducible refine zX ?_ ?_); exact rfl) | ((with_reducible refine zE (And.intro ?_ ?_)); exact kr) | (with_reducible refine zE ?_) | ((with_reducible apply zP); (first | exact dp | exact oc rfl (ha))) | ((with_reducible apply zN); exact dn) | ((with_reducible apply zA); exact da) | ((with_reducible apply zS); exact ds) | ((with_reducible apply zY); exact rfl; exact rfl; exact tf) | ((with_reducible apply zG); exact rfl; exact rfl; exact tf) | ((with_reducible apply zU); exact rfl; exact rfl) | ((with_reducible apply zD); exact rfl; exact rfl) | ((with_reducible apply zB); exact rfl; exact rfl)))
    all_goals exact ⟨t + 1, htl, by omega, (And.intro rfl (And.intro rfl (And.intro rfl (And.intro rfl (And.intro rfl (And.intro rfl trivial)))))), (And.intro rfl (And.intro rfl (And.intro rfl (And.intro (congrArg (fun r => some (Blk.mk 78 (ratC r))) hS1) trivial))))⟩
  obtain rfl : t = m + 1 := by omega
  have hw0 := hw 0 hl1
  have v1 := ratioInt_A (nth w 0) ⟨by omega, by omega⟩
  have v2 := ratioMul_A ((hwS 0 hl1).mono (l := 10000) (by decide)) ((hsS (m + 1) (Nat.le_refl _)).mono (l := 10000) (by decide))
  have v3 := ratioSub_A ((int_ratS (n := 1) (by decide)).mono (l := 10000) (by decide)) (hNS.mono (l := 10000) (by decide))
  have hne : ((1 : Int) : Rat) - nrm c den (m + 1) w ≠ 0 := by
    have e : ((1 : Int) : Rat) = 1 := rfl
    rw [e]; grind
  have v4 := ratioDiv_A (((hwS 0 hl1).mul (hsS (m + 1) (Nat.le_refl _))).mono (l := 10000) (by decide)) (((int_ratS (n := 1) (by decide)).sub hNS).mono (l := 10000) (by decide)) hne
  have e : gnB den (losL c) w c.length (m + 1) (nrm c den (m + 1) w) = ((nth w 0 : Int) : Rat) * sumQ (fun t => wtR w (rst den (losL c) t) c.length) (m + 1) / (((1 : Int) : Rat) - nrm c den (m + 1) w) := rfl
  rw [e]
  clear e hne hsS hdS hvS hwS hwn hrS hrg hNS hw wr
  generalize nrm c den (m + 1) w = N at *
  generalize sumQ (fun t => wtR w (rst den (losL c) t) c.length) (m + 1) = S1 at *
  (repeat' (first | (with_reducible first | intro hg | refine mv (by constructor) ?_) | ((with_reducible first | refine zR ?_ ?_ | refine zW mixed ?_ ?_); exact kr) | ((with_reducible apply zK); exact rfl; exact tf) | ((with_reducible apply zCD); exact rfl) | ((with_reducible apply zCN); exact rfl) | ((with_reducible apply zC); exact rfl) | ((with_reducible refine zX ?_ ?_); exact rfl) | ((with_reducible refine zE (And.intro ?_ ?_)); exact kr) | (with_reducible refine zE ?_) | ((with_reducible apply zP); (first | exact o_indexI (xs := w) (j := 0) rfl rfl (by omega) rfl | exact dp | exact oc rfl (v1) | exact oc rfl (v2) | exact oc rfl (v3) | exact oc rfl (v4) | exact oc rfl (z1) | exact oc rfl (wN))) | ((with_reducible apply zN); exact dn) | ((with_reducible apply zA); exact da) | ((with_reducible apply zS); exact ds) | ((with_reducible apply zY); exact rfl; exact rfl; exact tf) | ((with_reducible apply zG); exact rfl; exact rfl; exact tf) | ((with_reducible apply zU); exact rfl; exact rfl) | ((with_reducible apply zD); exact rfl; exact rfl) | ((with_reducible apply zB); exact rfl; exact rfl)))
  ((with_reducible first | apply q_retR | apply q_retN); exact rl)
  rfl
theorem gnB_S {c : List Rg} {den : Int} (hL : LoopOk c den) {m : Nat} {w : List Int} (hp : PrfOk c.length (m + 1) w) (hn : nrm c den (m + 1) w < 1) : RatS 10000 (gnB den (losL c) w c.length (m + 1) (nrm c den (m + 1) w)) := by
  have hm6 := hp.s6
  have hl1 := hL.l1
  have hwl := hp.l
  have hw : ∀ i, i < c.length → 1 ≤ nth w i ∧ nth w i ≤ 10 := fun i hi => hp.w _ (nth_mem (by omega))
  have hwS : ∀ i, i < c.length → RatS 3 ((nth w i : Int) : Rat) := fun i hi => int_ratS (by have := hw i hi; omega)
  have hvS : ∀ t, t ≤ 8 → RatS 6 (wtR w (rst den (losL c) t) c.length) := fun t ht => wtR_S fun j hj => by
    have h1 : RatS 3 (absR ((rst den (losL c) t).getD j 0)) := by
      by_cases hjt : j ≤ t
      · rw [rst_get den (losL c) hjt]; exact absR_S (rsp_S hL (by omega))
      · rw [List.getD_eq_getElem?_getD, List.getElem?_eq_none (by rw [rst_len]; omega)]
        exact (int_ratS (n := 0) (by decide) : RatS 3 ((0 : Int) : Rat))
    exact h1.div (hwS j hj) (by
      have := (hw j hj).1
      exact_mod_cast (show nth w j ≠ 0 by omega))
  have hsS : RatS 2000 (sumQ (fun t => wtR w (rst den (losL c) t) c.length) (m + 1)) := (sum_S7 fun k hk => hvS k (by omega)).mono (kR7_le (by omega))
  have hne : ((1 : Int) : Rat) - nrm c den (m + 1) w ≠ 0 := by
    have e : ((1 : Int) : Rat) = 1 := rfl
    rw [e]; grind
  exact (((hwS 0 hl1).mul hsS).div ((int_ratS (n := 1) (by decide)).sub (nrm_ratS hL hp)) hne).mono (by decide)
theorem qgainBound_A (c : List Rg) (den : Int) (hL : LoopOk c den) (m : Nat) (w : List Int) (hp : PrfOk c.length (m + 1) w) : AC Tryz.prog 39 [loV c den, .agg (prfC (m + 1) w)] (.tuple [F2 (gnR c den (m + 1) w).1, I (gnR c den (m + 1) w).2]) := by
  have ws := qsettles_A c den hL (m + 1) w hp
  unfold gnR
  cases hn : decide (nrm c den (m + 1) w < 1)
  · rw [hn] at ws
    refine ac_body Tryz.func39 rfl (by kernel_rfl) fun w0 ok => ?_; show AWp _ (ctx0 w0 ok _) _ (ARet _ _ _) (entry _)
    exact zF
  · rw [hn] at ws
    have hn := of_decide_eq_true hn
    have wb := qbound_A c den hL m w hp hn
    have wf := qfrac_A _ ((gnB_S hL hp hn).mono (by decide))
    rw [cond_true]
    generalize gnB den (losL c) w c.length (m + 1) (nrm c den (m + 1) w) = G at *
    generalize frQ G = R at *
    refine ac_body Tryz.func39 rfl (by kernel_rfl) fun w0 ok => ?_; show AWp _ (ctx0 w0 ok _) _ (ARet _ _ _) (entry _)
    exact zF

end Go.Proofs.YtiabcffcbhlbiaaGreat
