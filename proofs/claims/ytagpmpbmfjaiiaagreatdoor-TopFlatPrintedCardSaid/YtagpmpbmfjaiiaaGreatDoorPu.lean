/- The law FlatHeats: what it answers. -/
import Derived.Test.YtagpmpbmfjaiiaaGreatDoorPt
set_option linter.unusedVariables false
set_option linter.unusedSimpArgs false
namespace Go.Proofs.YtagpmpbmfjaiiaaGreatDoor
open Go.RowKit
set_option maxRecDepth 20000
set_option maxHeartbeats 8000000

abbrev hcV (a c b : Int) : DV := .agg [I a, I c, I b]
def heatG (t : List Int) (a c b : Int) : Int := fst0 [unl (decide ((2 : Int) ≤ t.length)) 10, unl (decide ((t.length : Int) ≤ 9)) 8, unl (!(t.any fun x => !inR x (-100000) 100000)) 2, unl (inR a (-100000) 100000 && (inR c 0 1000 && inR b 0 1000)) 2]
def heatF (c b n : Int) : Int := fst0 [unl (decide (c + 2 * b ≤ 1000)) 22, unl (inR n 0 200) 2]
/-- The error of temperatures, of heat and of steps. -/
def heatE (t : List Int) (a c b n : Int) : Int := bif heatG t a c b == 0 then heatF c b n else heatG t a c b
theorem heatE_g {t : List Int} {a c b : Int} (h : heatG t a c b ≠ 0) (n : Int) : heatE t a c b n = heatG t a c b := by
  unfold heatE; rw [show (heatG t a c b == 0) = false from beq_eq_false_iff_ne.2 h]; rfl
theorem heatE_f {t : List Int} {a c b : Int} (h : heatG t a c b = 0) (n : Int) : heatE t a c b n = heatF c b n := by
  unfold heatE; rw [h]; rfl
theorem heatG_ok {t : List Int} {a c b : Int} (h : heatG t a c b = 0) : HeatOk t a c b := by
  obtain ⟨h1, h⟩ := fst0_cons h
  obtain ⟨h2, h⟩ := fst0_cons h
  obtain ⟨h3, h⟩ := fst0_cons h
  obtain ⟨h4, _⟩ := fst0_cons h
  have h1 := of_decide_eq_true (unl_ok (by decide) h1)
  have h2 := of_decide_eq_true (unl_ok (by decide) h2)
  have h3 := all_of_any (unl_ok (by decide) h3)
  have h4 := unl_ok (by decide) h4
  simp only [Bool.and_eq_true] at h4
  exact ⟨by omega, by omega, fun x hx => inR_iff.1 (h3 x hx), inR_iff.1 h4.1, inR_iff.1 h4.2.1, inR_iff.1 h4.2.2⟩
theorem heatF_ok {c b n : Int} (h : heatF c b n = 0) : c + 2 * b ≤ 1000 ∧ 0 ≤ n ∧ n ≤ 200 := by
  obtain ⟨h1, h⟩ := fst0_cons h
  obtain ⟨h2, _⟩ := fst0_cons h
  exact ⟨of_decide_eq_true (unl_ok (by decide) h1), inR_iff.1 (unl_ok (by decide) h2)⟩
theorem heatE_ok {t : List Int} {a c b n : Int} (h : heatE t a c b n = 0) : HeatOk t a c b ∧ c + 2 * b ≤ 1000 ∧ 0 ≤ n ∧ n ≤ 200 := by
  by_cases hG : heatG t a c b = 0
  · rw [heatE_f hG] at h; exact ⟨heatG_ok hG, heatF_ok h⟩
  · rw [heatE_g hG] at h; exact absurd h hG

theorem heated_err (t : List Int) (a c b n : Int) (hm : t.length ≤ 140737488355328) (he : heatE t a c b n ≠ 0) : AC Tryz.prog 50 [isl t, hcV a c b, I n] (.tuple [nilV, I (heatE t a c b n)]) := by
  have hsz := sized_A 100000
  have hal := allSized_A t 2 100000 ⟨by decide, by decide⟩ hm
  have hsm := small_A a 100000 ⟨by decide, by decide⟩
  have hrc := isRate_A c
  have hrb := isRate_A b
  by_cases hG : heatG t a c b = 0
  · have hok := heatG_ok hG
    rw [heatE_f hG] at he ⊢
    have h2 := hok.l2
    have h9 := hok.l9
    obtain ⟨hc1, hc2⟩ := hok.c
    obtain ⟨hb1, hb2⟩ := hok.b
    rw [inR_iff.2 hok.a] at hsm
    rw [inR_iff.2 hok.c] at hrc
    rw [inR_iff.2 hok.b] at hrb
    have hG' : fst0 [unl (decide ((2 : Int) ≤ t.length)) 10, unl (decide ((t.length : Int) ≤ 9)) 8, unl (!(t.any fun x => !inR x (-100000) 100000)) 2, unl true 2] = 0 := by
      have := hG
      unfold heatG at this
      rwa [inR_iff.2 hok.a, inR_iff.2 hok.c, inR_iff.2 hok.b] at this
    have he' : fst0 [unl (decide (c + 2 * b ≤ 1000)) 22, unl (inR n 0 200) 2] ≠ 0 := he
    refine ac_body Tryz.func50 rfl (by kernel_rfl) fun w0 ok => ?_; show AWp _ (ctx0 w0 ok _) _ (ARet _ _ _) (entry _)
    (repeat' (first | (with_reducible first | intro hg | refine mv (by constructor) ?_) | ((with_reducible first | refine zR ?_ ?_ | refine zW mixed ?_ ?_); exact kr) | ((with_reducible apply zK); exact rfl; exact tf) | ((with_reducible apply zCD); exact rfl) | ((with_reducible apply zCN); exact rfl) | ((with_reducible apply zC); exact rfl) | ((with_reducible refine zX ?_ ?_); exact rfl) | ((with_reducible refine zE (And.intro ?_ ?_)); exact kr) | (with_reducible refine zE ?_) | ((with_reducible apply zP); (first | exact o_callV rfl rfl hrc (.inl rfl) | exact o_callV rfl rfl hrb (.inl rfl) | exact dp | exact oc rfl (hsz) | exact oc rfl (hal) | exact oc rfl (hsm) | exact oc rfl (within_A _ _ _) | exact oc rfl (unless_A _ _) | exact oc rfl (first4_A _ _ _ _) | exact oc rfl (first2_A _ _))) | ((with_reducible apply zN); exact dn) | ((with_reducible apply zA); exact da) | ((with_reducible apply zS); exact ds) | ((with_reducible apply zY); exact rfl; exact rfl; exact tf) | ((with_reducible apply zG); exact rfl; exact rfl; exact tf) | ((with_reducible apply zU); exact rfl; exact rfl) | ((with_reducible apply zD); exact rfl; exact rfl) | ((with_reducible apply zB); exact rfl; exact rfl)))
    ((with_reducible first | apply q_retR | apply q_retN); exact rl)
    rfl
  · rw [heatE_g hG] at he ⊢
    have hG' : fst0 [unl (decide ((2 : Int) ≤ t.length)) 10, unl (decide ((t.length : Int) ≤ 9)) 8, unl (!(t.any fun x => !inR x (-100000) 100000)) 2, unl (inR a (-100000) 100000 && (inR c 0 1000 && inR b 0 1000)) 2] ≠ 0 := hG
    have hr : heatG t a c b = fst0 [unl (decide ((2 : Int) ≤ t.length)) 10, unl (decide ((t.length : Int) ≤ 9)) 8, unl (!(t.any fun x => !inR x (-100000) 100000)) 2, unl (inR a (-100000) 100000 && (inR c 0 1000 && inR b 0 1000)) 2] := rfl
    rw [hr]
    clear hr hG he
    cases h1 : inR a (-100000) 100000
    · rw [h1] at hsm hG'
      replace hG' : fst0 [unl (decide ((2 : Int) ≤ t.length)) 10, unl (decide ((t.length : Int) ≤ 9)) 8, unl (!(t.any fun x => !inR x (-100000) 100000)) 2, unl false 2] ≠ 0 := hG'
      refine ac_body Tryz.func50 rfl (by kernel_rfl) fun w0 ok => ?_; show AWp _ (ctx0 w0 ok _) _ (ARet _ _ _) (entry _)
      (repeat' (first | (with_reducible first | intro hg | refine mv (by constructor) ?_) | ((with_reducible first | refine zR ?_ ?_ | refine zW mixed ?_ ?_); exact kr) | ((with_reducible apply zK); exact rfl; exact tf) | ((with_reducible apply zCD); exact rfl) | ((with_reducible apply zCN); exact rfl) | ((with_reducible apply zC); exact rfl) | ((with_reducible refine zX ?_ ?_); exact rfl) | ((with_reducible refine zE (And.intro ?_ ?_)); exact kr) | (with_reducible refine zE ?_) | ((with_reducible apply zP); (first | exact dp | exact oc rfl (hsz) | exact oc rfl (hal) | exact oc rfl (hsm) | exact oc rfl (within_A _ _ _) | exact oc rfl (unless_A _ _) | exact oc rfl (first4_A _ _ _ _))) | ((with_reducible apply zN); exact dn) | ((with_reducible apply zA); exact da) | ((with_reducible apply zS); exact ds) | ((with_reducible apply zY); exact rfl; exact rfl; exact tf) | ((with_reducible apply zG); exact rfl; exact rfl; exact tf) | ((with_reducible apply zU); exact rfl; exact rfl) | ((with_reducible apply zD); exact rfl; exact rfl) | ((with_reducible apply zB); exact rfl; exact rfl)))
      ((with_reducible first | apply q_retR | apply q_retN); exact rl)
      rfl
    · rw [h1] at hsm hG'
      cases h2 : inR c 0 1000
      · rw [h2] at hrc hG'
        replace hG' : fst0 [unl (decide ((2 : Int) ≤ t.length)) 10, unl (decide ((t.length : Int) ≤ 9)) 8, unl (!(t.any fun x => !inR x (-100000) 100000)) 2, unl false 2] ≠ 0 := hG'
        refine ac_body Tryz.func50 rfl (by kernel_rfl) fun w0 ok => ?_; show AWp _ (ctx0 w0 ok _) _ (ARet _ _ _) (entry _)
        (repeat' (first | (with_reducible first | intro hg | refine mv (by constructor) ?_) | ((with_reducible first | refine zR ?_ ?_ | refine zW mixed ?_ ?_); exact kr) | ((with_reducible apply zK); exact rfl; exact tf) | ((with_reducible apply zCD); exact rfl) | ((with_reducible apply zCN); exact rfl) | ((with_reducible apply zC); exact rfl) | ((with_reducible refine zX ?_ ?_); exact rfl) | ((with_reducible refine zE (And.intro ?_ ?_)); exact kr) | (with_reducible refine zE ?_) | ((with_reducible apply zP); (first | exact o_callV rfl rfl hrc (.inl rfl) | exact dp | exact oc rfl (hsz) | exact oc rfl (hal) | exact oc rfl (hsm) | exact oc rfl (within_A _ _ _) | exact oc rfl (unless_A _ _) | exact oc rfl (first4_A _ _ _ _))) | ((with_reducible apply zN); exact dn) | ((with_reducible apply zA); exact da) | ((with_reducible apply zS); exact ds) | ((with_reducible apply zY); exact rfl; exact rfl; exact tf) | ((with_reducible apply zG); exact rfl; exact rfl; exact tf) | ((with_reducible apply zU); exact rfl; exact rfl) | ((with_reducible apply zD); exact rfl; exact rfl) | ((with_reducible apply zB); exact rfl; exact rfl)))
        ((with_reducible first | apply q_retR | apply q_retN); exact rl)
        rfl
      · rw [h2] at hrc hG'
        replace hG' : fst0 [unl (decide ((2 : Int) ≤ t.length)) 10, unl (decide ((t.length : Int) ≤ 9)) 8, unl (!(t.any fun x => !inR x (-100000) 100000)) 2, unl (inR b 0 1000) 2] ≠ 0 := hG'
        refine ac_body Tryz.func50 rfl (by kernel_rfl) fun w0 ok => ?_; show AWp _ (ctx0 w0 ok _) _ (ARet _ _ _) (entry _)
        (repeat' (first | (with_reducible first | intro hg | refine mv (by constructor) ?_) | ((with_reducible first | refine zR ?_ ?_ | refine zW mixed ?_ ?_); exact kr) | ((with_reducible apply zK); exact rfl; exact tf) | ((with_reducible apply zCD); exact rfl) | ((with_reducible apply zCN); exact rfl) | ((with_reducible apply zC); exact rfl) | ((with_reducible refine zX ?_ ?_); exact rfl) | ((with_reducible refine zE (And.intro ?_ ?_)); exact kr) | (with_reducible refine zE ?_) | ((with_reducible apply zP); (first | exact o_callV rfl rfl hrc (.inl rfl) | exact o_callV rfl rfl hrb (.inl rfl) | exact dp | exact oc rfl (hsz) | exact oc rfl (hal) | exact oc rfl (hsm) | exact oc rfl (within_A _ _ _) | exact oc rfl (unless_A _ _) | exact oc rfl (first4_A _ _ _ _))) | ((with_reducible apply zN); exact dn) | ((with_reducible apply zA); exact da) | ((with_reducible apply zS); exact ds) | ((with_reducible apply zY); exact rfl; exact rfl; exact tf) | ((with_reducible apply zG); exact rfl; exact rfl; exact tf) | ((with_reducible apply zU); exact rfl; exact rfl) | ((with_reducible apply zD); exact rfl; exact rfl) | ((with_reducible apply zB); exact rfl; exact rfl)))
        ((with_reducible first | apply q_retR | apply q_retN); exact rl)
        rfl

theorem fst0_skip {b : Bool} {n : Int} {l : List Int} (h : b = true) : fst0 (unl b n :: l) = fst0 l := by subst h; rfl
theorem fst0_stop {b : Bool} {n : Int} {l : List Int} (hn : n ≠ 0) (h : b = false) : fst0 (unl b n :: l) = n := by
  subst h; exact fst0_ne hn l
theorem inRs {k n : Int} {p : Prop} [Decidable p] (h : (0 ≤ k ∧ k ≤ n) ↔ p) : inR k 0 n = decide p := by
  by_cases hp : p
  · rw [decide_eq_true hp, inR_iff.2 (h.2 hp)]
  · rw [decide_eq_false hp]
    cases hq : inR k 0 n
    · rfl
    · exact absurd (h.1 (inR_iff.1 hq)) hp
end Go.Proofs.YtagpmpbmfjaiiaaGreatDoor
