/- The law FlatKept: the walk. -/
import Derived.Test.YtagpmpbmfjaiiaaWc1
import Derived.Test.YtagpmpbmfjaiiaaWc2
import Derived.Test.YtagpmpbmfjaiiaaWc3
import Derived.Test.YtagpmpbmfjaiiaaTf
set_option linter.unusedVariables false
set_option linter.unusedSimpArgs false
namespace Go.Proofs.Ytagpmpbmfjaiiaa
open Go.RowKit
set_option maxRecDepth 20000
set_option maxHeartbeats 8000000

theorem best_le {T : List Int} {A : List Act3} (h : RulOk T A) (m : Int) : (bestS T A).2 ≤ m ↔ ∃ k, k < (allS A).length ∧ keepB T A m ((allS A).getD k []) = true := by
  obtain ⟨h1, h2, h3⟩ := bestS_ok h
  constructor
  · intro hle
    obtain ⟨k, hk, e⟩ := List.mem_iff_getElem.1 h1
    refine ⟨k, hk, ?_⟩
    rw [List.getD_eq_getElem?_getD, List.getElem?_eq_getElem hk]
    show decide (maxP T A ((allS A)[k])  ≤ m) = true
    rw [e, ← h2]
    exact decide_eq_true hle
  · rintro ⟨k, hk, hK⟩
    have hm := h3 _ (show (allS A).getD k [] ∈ allS A by rw [List.getD_eq_getElem?_getD, List.getElem?_eq_getElem hk]; exact List.getElem_mem hk)
    have := of_decide_eq_true hK
    omega
theorem flatKept_A (T : List Int) (A : List Act3) (m : Int) : AC Try.prog 3 [rulV T A, I m] (B true) := by
  have aw := awake_A
  have hf := few_A T A
  cases hq : fewP T A
  · rw [hq] at hf
    refine ac_body Try.func3 rfl (by kernel_rfl) fun w0 ok => ?_; show AWp _ (ctx0 w0 ok _) _ (ARet _ _ _) (entry _)
    (repeat' (first | (with_reducible first | intro hg | refine mv (by constructor) ?_) | ((with_reducible first | refine zR ?_ ?_ | refine zW mixed ?_ ?_); exact kr) | ((with_reducible apply zK); exact rfl; exact tf) | ((with_reducible apply zCD); exact rfl) | ((with_reducible apply zCN); exact rfl) | ((with_reducible apply zC); exact rfl) | ((with_reducible refine zX ?_ ?_); exact rfl) | ((with_reducible refine zE (And.intro ?_ ?_)); exact kr) | (with_reducible refine zE ?_) | ((with_reducible apply zP); (first | exact dp | exact oc rfl (aw) | exact oc rfl (hf))) | ((with_reducible apply zN); exact dn) | ((with_reducible apply zA); exact da) | ((with_reducible apply zS); exact ds) | ((with_reducible apply zY); exact rfl; exact rfl; exact tf) | ((with_reducible apply zG); exact rfl; exact rfl; exact tf) | ((with_reducible apply zU); exact rfl; exact rfl) | ((with_reducible apply zD); exact rfl; exact rfl) | ((with_reducible apply zB); exact rfl; exact rfl)))
    ((with_reducible first | apply q_retR | apply q_retN); exact rl)
    rfl
  rw [hq] at hf
  have hfo := fewP_ok hq
  have hlo := hfo.len
  have hcr := hfo.copy
  have hre := rulesErr_A T A hlo
  by_cases he : (rulE T A).2 = 0
  rotate_left
  · refine ac_body Try.func3 rfl (by kernel_rfl) fun w0 ok => ?_; show AWp _ (ctx0 w0 ok _) _ (ARet _ _ _) (entry _)
    (repeat' (first | (with_reducible first | intro hg | refine mv (by constructor) ?_) | ((with_reducible first | refine zR ?_ ?_ | refine zW mixed ?_ ?_); exact kr) | ((with_reducible apply zK); exact rfl; exact tf) | ((with_reducible apply zCD); exact rfl) | ((with_reducible apply zCN); exact rfl) | ((with_reducible apply zC); exact rfl) | ((with_reducible refine zX ?_ ?_); exact rfl) | ((with_reducible refine zE (And.intro ?_ ?_)); exact kr) | (with_reducible refine zE ?_) | ((with_reducible apply zP); (first | exact dp | exact oc rfl (aw) | exact oc rfl (hf) | exact oc rfl (hre))) | ((with_reducible apply zN); exact dn) | ((with_reducible apply zA); exact da) | ((with_reducible apply zS); exact ds) | ((with_reducible apply zY); exact rfl; exact rfl; exact tf) | ((with_reducible apply zG); exact rfl; exact rfl; exact tf) | ((with_reducible apply zU); exact rfl; exact rfl) | ((with_reducible apply zD); exact rfl; exact rfl) | ((with_reducible apply zB); exact rfl; exact rfl)))
    all_goals first | exact absurd ‹_› he | (((with_reducible first | apply q_retR | apply q_retN); exact rl); rfl)
  obtain ⟨h00, hok⟩ := rulE_ok he
  rw [he] at hre
  have wm := bwithin_A m 0 100000
  cases hm : inR m 0 100000
  · rw [hm] at wm
    refine ac_body Try.func3 rfl (by kernel_rfl) fun w0 ok => ?_; show AWp _ (ctx0 w0 ok _) _ (ARet _ _ _) (entry _)
    (repeat' (first | (with_reducible first | intro hg | refine mv (by constructor) ?_) | ((with_reducible first | refine zR ?_ ?_ | refine zW mixed ?_ ?_); exact kr) | ((with_reducible apply zK); exact rfl; exact tf) | ((with_reducible apply zCD); exact rfl) | ((with_reducible apply zCN); exact rfl) | ((with_reducible apply zC); exact rfl) | ((with_reducible refine zX ?_ ?_); exact rfl) | ((with_reducible refine zE (And.intro ?_ ?_)); exact kr) | (with_reducible refine zE ?_) | ((with_reducible apply zP); (first | exact dp | exact oc rfl (aw) | exact oc rfl (hf) | exact oc rfl (hre) | exact oc rfl (wm))) | ((with_reducible apply zN); exact dn) | ((with_reducible apply zA); exact da) | ((with_reducible apply zS); exact ds) | ((with_reducible apply zY); exact rfl; exact rfl; exact tf) | ((with_reducible apply zG); exact rfl; exact rfl; exact tf) | ((with_reducible apply zU); exact rfl; exact rfl) | ((with_reducible apply zD); exact rfl; exact rfl) | ((with_reducible apply zB); exact rfl; exact rfl)))
    ((with_reducible first | apply q_retR | apply q_retN); exact rl)
    rfl
  have hm0 := (inR_iff.1 hm).1
  have hb := best_ok T A hok h00
  have hset := allS_ok hok
  have g1 := fun r h1 h2 => firstWithin_A T A (allS A) m hok hset h00 hm r h1 h2
  have g3 := contra_A T A (allS A) m hok hset h00 hm
  have hbl := best_le hok m
  by_cases hle : (bestS T A).2 ≤ m
  · rw [hm] at wm
    obtain ⟨k, hk, hK⟩ := hbl.1 hle
    have hwn := contP_none hok.t9 hm0 hk hK
    rw [hwn] at g3
    obtain ⟨l, hl⟩ : ∃ l, (allS A).find? (keepB T A m) = some l := by
      refine Option.isSome_iff_exists.1 (List.find?_isSome.2 ⟨_, List.getElem_mem hk, ?_⟩)
      rw [List.getD_eq_getElem?_getD, List.getElem?_eq_getElem hk] at hK
      exact hK
    have g1' := g1 (.tuple [isl l, I 0]) (fun k hk h1 h2 => by
      have h3 := find_at hk h1 h2
      rw [hl] at h3
      injection h3 with h3
      rw [h3]) (fun h => by
      have h3 := find_none h
      rw [hl] at h3; cases h3)
    have hx1 : (!(decide ((0 : Int) = 0) == decide ((bestS T A).2 ≤ m))) = false := by rw [decide_eq_true hle]; rfl
    clear g1 hbl
    refine ac_body Try.func3 rfl (by kernel_rfl) fun w0 ok => ?_; show AWp _ (ctx0 w0 ok _) _ (ARet _ _ _) (entry _)
    (repeat' (first | (with_reducible first | intro hg | refine mv (by constructor) ?_) | ((with_reducible first | refine zR ?_ ?_ | refine zW mixed ?_ ?_); exact kr) | ((with_reducible apply zK); exact rfl; exact tf) | ((with_reducible apply zCD); exact rfl) | ((with_reducible apply zCN); exact rfl) | ((with_reducible apply zC); exact rfl) | ((with_reducible refine zX ?_ ?_); exact rfl) | ((with_reducible refine zE (And.intro ?_ ?_)); exact kr) | (with_reducible refine zE ?_) | ((with_reducible apply zP); (first | exact dp | exact oc rfl (aw) | exact oc rfl (hf) | exact oc rfl (hcr) | exact oc rfl (hre) | exact oc rfl (wm) | exact oc rfl (hb) | exact oc rfl (g1') | exact oc rfl (g3))) | ((with_reducible apply zN); exact dn) | ((with_reducible apply zA); exact da) | ((with_reducible apply zS); exact ds) | ((with_reducible apply zY); exact rfl; exact rfl; exact tf) | ((with_reducible apply zG); exact rfl; exact rfl; exact tf) | ((with_reducible apply zU); exact rfl; exact rfl) | ((with_reducible apply zD); exact rfl; exact rfl) | ((with_reducible apply zB); exact rfl; exact rfl)))
    ((with_reducible first | apply q_retR | apply q_retN); exact rl)
    rfl
  · have hall : ∀ k, k < (allS A).length → keepB T A m ((allS A).getD k []) = false := fun k hk => Bool.eq_false_iff.2 fun h => hle (hbl.2 ⟨k, hk, h⟩)
    have g1' := g1 (.tuple [nilV, I 12]) (fun k hk _ h => by rw [hall k hk] at h; exact absurd h (by decide)) (fun _ => rfl)
    have hs := contP_some (T := T) (A := A) (m := m) (L := allS A) hok.t9 hok.t0 hm0 hall
    obtain ⟨b, hbs⟩ := Option.isSome_iff_exists.1 hs
    obtain ⟨p, rfl, hc⟩ := contP_ok hok.t9 hbs
    rw [hbs] at g3
    have g3 : AC Try.prog 11 [rulV T A, I m] (.tuple [posV p, I 0]) := by rw [← posV_eq]; exact g3
    have ha0 := hok.a0
    have ha3 := hok.a3
    have hn0 : m < (bestS T A).2 := by omega
    clear g1 hbl aw hf hcr hre wm
    match A, ha0, ha3 with
    | [u0], _, _ => exact kept1_A T u0 m _ _ p hok hq h00 hm hn0 hc hb g1' g3
    | [u0, u1], _, _ => exact kept2_A T u0 u1 m _ _ p hok hq h00 hm hn0 hc hb g1' g3
    | [u0, u1, u2], _, _ => exact kept3_A T u0 u1 u2 m _ _ p hok hq h00 hm hn0 hc hb g1' g3
    | _ :: _ :: _ :: _ :: _, _, h => exact absurd h (by simp)

end Go.Proofs.Ytagpmpbmfjaiiaa
