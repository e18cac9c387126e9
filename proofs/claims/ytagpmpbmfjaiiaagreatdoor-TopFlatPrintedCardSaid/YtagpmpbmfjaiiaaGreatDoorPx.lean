/- Rules: whether they are few, and their errors, by the reference. -/
import Derived.Test.YtagpmpbmfjaiiaaGreatDoorPw
import Derived.Test.YtagpmpbmfjaiiaaGreatDoorPu
set_option linter.unusedVariables false
set_option linter.unusedSimpArgs false
namespace Go.Proofs.YtagpmpbmfjaiiaaGreatDoor
open Go.RowKit
set_option maxRecDepth 20000
set_option maxHeartbeats 8000000

/-- How many settings, with one more actuator. -/
def cntS (a : Act3) (c : Int) : Int := bif inR a.lo (-10) 10 && inR a.hi (-10) 10 then c * max 1 (a.hi - a.lo + 1) else c
def fewTo : List Act3 → Int → Bool
  | [], _ => true
  | a :: A, c => bif decide ((a.eff.length : Int) ≤ 12) then (bif decide (700 < cntS a c) then false else fewTo A (cntS a c)) else false
def fewP (T : List Int) (A : List Act3) : Bool := bif decide ((T.length : Int) ≤ 12) then (bif decide (5 < (A.length : Int)) then false else fewTo A 1) else false
theorem fewTo_cons (a : Act3) (A : List Act3) (c : Int) : fewTo (a :: A) c = bif decide ((a.eff.length : Int) ≤ 12) then (bif decide (700 < cntS a c) then false else fewTo A (cntS a c)) else false := rfl
theorem fewTo_ok : ∀ (A : List Act3) (c : Int), fewTo A c = true → ∀ a ∈ A, a.eff.length ≤ 12
  | [], _, _, a, h => by simp at h
  | x :: A, c, h, a, ha => by
    unfold fewTo at h
    by_cases h1 : (x.eff.length : Int) ≤ 12
    · rw [decide_eq_true h1] at h
      have h : (bif decide (700 < cntS x c) then false else fewTo A (cntS x c)) = true := h
      by_cases h2 : 700 < cntS x c
      · rw [decide_eq_true h2] at h; cases h
      · rw [decide_eq_false h2] at h
        rcases List.mem_cons.1 ha with rfl | ha
        · omega
        · exact fewTo_ok A _ h a ha
    · rw [decide_eq_false h1] at h; cases h
structure FewOk (T : List Int) (A : List Act3) : Prop where
  t : T.length ≤ 12
  a : A.length ≤ 5
  e : ∀ a ∈ A, a.eff.length ≤ 12
theorem fewP_ok {T : List Int} {A : List Act3} (h : fewP T A = true) : FewOk T A := by
  unfold fewP at h
  by_cases h1 : (T.length : Int) ≤ 12
  · rw [decide_eq_true h1] at h
    have h : (bif decide (5 < (A.length : Int)) then false else fewTo A 1) = true := h
    by_cases h2 : 5 < (A.length : Int)
    · rw [decide_eq_true h2] at h; cases h
    · rw [decide_eq_false h2] at h
      exact ⟨by omega, by omega, fewTo_ok A _ h⟩
  · rw [decide_eq_false h1] at h; cases h
theorem FewOk.len {T : List Int} {A : List Act3} (h : FewOk T A) : LenOk T A := ⟨by have := h.t; omega, by have := h.a; omega, fun a ha => by have := h.e a ha; omega⟩
theorem FewOk.copy {T : List Int} {A : List Act3} (h : FewOk T A) : AC Tryz.prog 10 [rulV T A] (rulV T A) := copyRules_A T A (by have := h.t; omega) (by have := h.a; omega) fun a ha => by have := h.e a ha; omega
theorem mul_cnt {c w : Int} (h1 : 1 ≤ c) (h2 : c ≤ 700) (h3 : 1 ≤ w) (h4 : w ≤ 21) : 1 ≤ c * w ∧ c * w ≤ 14700 := by
  have a1 : c * w ≤ c * 21 := Int.mul_le_mul_of_nonneg_left h4 (by omega)
  have a2 : c * 1 ≤ c * w := Int.mul_le_mul_of_nonneg_left h3 (by omega)
  omega
theorem few_A (T : List Int) (A : List Act3) : AC Tryz.prog 7 [rulV T A] (B (fewP T A)) := by
  have hs := short_A T
  by_cases hT : (T.length : Int) ≤ 12
  · rw [decide_eq_true hT] at hs
    by_cases hA : 5 < (A.length : Int)
    · have hr : fewP T A = false := by unfold fewP; rw [decide_eq_true hT, decide_eq_true hA]; rfl
      refine ac_body Tryz.func7 rfl (by kernel_rfl) fun w0 ok => ?_; show AWp _ (ctx0 w0 ok _) _ (ARet _ _ _) (entry _)
      (repeat' (first | (with_reducible first | intro hg | refine mv (by constructor) ?_) | ((with_reducible first | refine zR ?_ ?_ | refine zW mixed ?_ ?_); exact kr) | ((with_reducible apply zK); exact rfl; exact tf) | ((with_reducible apply zCD); exact rfl) | ((with_reducible apply zCN); exact rfl) | ((with_reducible apply zC); exact rfl) | ((with_reducible refine zX ?_ ?_); exact rfl) | ((with_reducible refine zE (And.intro ?_ ?_)); exact kr) | (with_reducible refine zE ?_) | ((with_reducible apply zP); (first | exact dp | exact oc rfl (hs))) | ((with_reducible apply zN); exact dn) | ((with_reducible apply zA); exact da) | ((with_reducible apply zS); exact ds) | ((with_reducible apply zY); exact rfl; exact rfl; exact tf) | ((with_reducible apply zG); exact rfl; exact rfl; exact tf) | ((with_reducible apply zU); exact rfl; exact rfl) | ((with_reducible apply zD); exact rfl; exact rfl) | ((with_reducible apply zB); exact rfl; exact rfl)))
      ((with_reducible first | apply q_retR | apply q_retN); exact rl)
      rw [hr]; rfl
    have hr : fewP T A = fewTo A 1 := by unfold fewP; rw [decide_eq_true hT, decide_eq_false hA]; rfl
    refine ac_body Tryz.func7 rfl (by kernel_rfl) fun w0 ok => ?_; show AWp _ (ctx0 w0 ok _) _ (ARet _ _ _) (entry _)
    (repeat' (first | (with_reducible first | intro hg | refine mv (by constructor) ?_) | ((with_reducible first | refine zR ?_ ?_ | refine zW mixed ?_ ?_); exact kr) | ((with_reducible apply zK); exact rfl; exact tf) | ((with_reducible apply zCD); exact rfl) | ((with_reducible apply zCN); exact rfl) | ((with_reducible apply zC); exact rfl) | ((with_reducible refine zX ?_ ?_); exact rfl) | ((with_reducible refine zE (And.intro ?_ ?_)); exact kr) | (with_reducible refine zE ?_) | ((with_reducible apply zP); (first | exact dp | exact oc rfl (hs))) | ((with_reducible apply zN); exact dn) | ((with_reducible apply zA); exact da) | ((with_reducible apply zS); exact ds) | ((with_reducible apply zY); exact rfl; exact rfl; exact tf) | ((with_reducible apply zG); exact rfl; exact rfl; exact tf) | ((with_reducible apply zU); exact rfl; exact rfl) | ((with_reducible apply zD); exact rfl; exact rfl) | ((with_reducible apply zB); exact rfl; exact rfl)))
    refine awp_loopL2 (fun (k : Nat) (c : Int) => [(1, .ptr 1 0), (3, .d (I c)), (4, .d (I k))]) (fun _ _ => [(1, ⟨25, rulC T A⟩)]) (fun k c => k ≤ A.length ∧ 1 ≤ c ∧ c ≤ 700 ∧ fewTo (A.drop k) c = fewTo A 1) (fun k _ => A.length - k) 0 1 ⟨Nat.zero_le _, by decide, by decide, rfl⟩ (And.intro rfl (And.intro rfl (And.intro rfl trivial))) (And.intro rfl trivial) fun k c ⟨hk, hc1, hc2, hd⟩ => ?_
    by_cases hlt : k < A.length
    · rw [drop_getA hlt, fewTo_cons] at hd
      have hse := short_A (A.getD k a0).eff
      by_cases he : ((A.getD k a0).eff.length : Int) ≤ 12
      · rw [decide_eq_true he] at hse hd
        replace hd : (bif decide (700 < cntS (A.getD k a0) c) then false else fewTo (A.drop (k + 1)) (cntS (A.getD k a0) c)) = fewTo A 1 := hd
        have w1 := bwithin_A (A.getD k a0).lo (-10) 10
        have w2 := bwithin_A (A.getD k a0).hi (-10) 10
        have hcd : cntS (A.getD k a0) c = bif inR (A.getD k a0).lo (-10) 10 && inR (A.getD k a0).hi (-10) 10 then c * max 1 ((A.getD k a0).hi - (A.getD k a0).lo + 1) else c := rfl
        cases i1 : inR (A.getD k a0).lo (-10) 10
        · rw [i1] at w1 hcd
          replace hcd : cntS (A.getD k a0) c = c := hcd
          rw [hcd, decide_eq_false (by omega)] at hd
          (repeat' (first | (with_reducible first | intro hg | refine mv (by constructor) ?_) | ((with_reducible first | refine zR ?_ ?_ | refine zW mixed ?_ ?_); exact kr) | ((with_reducible apply zK); exact rfl; exact tf) | ((with_reducible apply zCD); exact rfl) | ((with_reducible apply zCN); exact rfl) | ((with_reducible apply zC); exact rfl) | ((with_reducible refine zX ?_ ?_); exact rfl) | ((with_reducible refine zE (And.intro ?_ ?_)); exact kr) | (with_reducible refine zE ?_) | ((with_reducible apply zP); (first | exact o_indexF a0 actC_len (by decide) rfl rfl (by omega) rfl | exact dp | exact oc rfl (hse) | exact oc rfl (w1))) | ((with_reducible apply zN); exact dn) | ((with_reducible apply zA); exact da) | ((with_reducible apply zS); exact ds) | ((with_reducible apply zY); exact rfl; exact rfl; exact tf) | ((with_reducible apply zG); exact rfl; exact rfl; exact tf) | ((with_reducible apply zU); exact rfl; exact rfl) | ((with_reducible apply zD); exact rfl; exact rfl) | ((with_reducible apply zB); exact rfl; exact rfl)))
          exact ⟨k + 1, c, ⟨hlt, hc1, hc2, hd⟩, by omega, (And.intro rfl (And.intro rfl (And.intro rfl trivial))), (And.intro rfl trivial)⟩
        · cases i2 : inR (A.getD k a0).hi (-10) 10
          · rw [i1] at w1
            rw [i2] at w2
            rw [i1, i2] at hcd
            replace hcd : cntS (A.getD k a0) c = c := hcd
            rw [hcd, decide_eq_false (by omega)] at hd
            (repeat' (first | (with_reducible first | intro hg | refine mv (by constructor) ?_) | ((with_reducible first | refine zR ?_ ?_ | refine zW mixed ?_ ?_); exact kr) | ((with_reducible apply zK); exact rfl; exact tf) | ((with_reducible apply zCD); exact rfl) | ((with_reducible apply zCN); exact rfl) | ((with_reducible apply zC); exact rfl) | ((with_reducible refine zX ?_ ?_); exact rfl) | ((with_reducible refine zE (And.intro ?_ ?_)); exact kr) | (with_reducible refine zE ?_) | ((with_reducible apply zP); (first | exact o_indexF a0 actC_len (by decide) rfl rfl (by omega) rfl | exact dp | exact oc rfl (hse) | exact oc rfl (w1) | exact oc rfl (w2))) | ((with_reducible apply zN); exact dn) | ((with_reducible apply zA); exact da) | ((with_reducible apply zS); exact ds) | ((with_reducible apply zY); exact rfl; exact rfl; exact tf) | ((with_reducible apply zG); exact rfl; exact rfl; exact tf) | ((with_reducible apply zU); exact rfl; exact rfl) | ((with_reducible apply zD); exact rfl; exact rfl) | ((with_reducible apply zB); exact rfl; exact rfl)))
            exact ⟨k + 1, c, ⟨hlt, hc1, hc2, hd⟩, by omega, (And.intro rfl (And.intro rfl (And.intro rfl trivial))), (And.intro rfl trivial)⟩
          · have j1 := inR_iff.1 i1
            have j2 := inR_iff.1 i2
            rw [i1] at w1
            rw [i2] at w2
            rw [i1, i2] at hcd
            replace hcd : cntS (A.getD k a0) c = c * max 1 ((A.getD k a0).hi - (A.getD k a0).lo + 1) := hcd
            have hm := mul_cnt (c := c) (w := max 1 ((A.getD k a0).hi - (A.getD k a0).lo + 1)) hc1 hc2 (by omega) (by omega)
            by_cases h7 : 700 < cntS (A.getD k a0) c
            · rw [decide_eq_true h7] at hd
              rw [hcd] at h7
              (repeat' (first | (with_reducible first | intro hg | refine mv (by constructor) ?_) | ((with_reducible first | refine zR ?_ ?_ | refine zW mixed ?_ ?_); exact kr) | ((with_reducible apply zK); exact rfl; exact tf) | ((with_reducible apply zCD); exact rfl) | ((with_reducible apply zCN); exact rfl) | ((with_reducible apply zC); exact rfl) | ((with_reducible refine zX ?_ ?_); exact rfl) | ((with_reducible refine zE (And.intro ?_ ?_)); exact kr) | (with_reducible refine zE ?_) | ((with_reducible apply zP); (first | exact o_indexF a0 actC_len (by decide) rfl rfl (by omega) rfl | exact dp | exact oc rfl (hse) | exact oc rfl (w1) | exact oc rfl (w2))) | ((with_reducible apply zN); exact dn) | ((with_reducible apply zA); exact da) | ((with_reducible apply zS); exact ds) | ((with_reducible apply zY); exact rfl; exact rfl; exact tf) | ((with_reducible apply zG); exact rfl; exact rfl; exact tf) | ((with_reducible apply zU); exact rfl; exact rfl) | ((with_reducible apply zD); exact rfl; exact rfl) | ((with_reducible apply zB); exact rfl; exact rfl)))
              ((with_reducible first | apply q_retR | apply q_retN); exact rl)
              rw [hr, ← hd]; rfl
            · rw [decide_eq_false h7] at hd
              rw [hcd] at h7 hd
              (repeat' (first | (with_reducible first | intro hg | refine mv (by constructor) ?_) | ((with_reducible first | refine zR ?_ ?_ | refine zW mixed ?_ ?_); exact kr) | ((with_reducible apply zK); exact rfl; exact tf) | ((with_reducible apply zCD); exact rfl) | ((with_reducible apply zCN); exact rfl) | ((with_reducible apply zC); exact rfl) | ((with_reducible refine zX ?_ ?_); exact rfl) | ((with_reducible refine zE (And.intro ?_ ?_)); exact kr) | (with_reducible refine zE ?_) | ((with_reducible apply zP); (first | exact o_indexF a0 actC_len (by decide) rfl rfl (by omega) rfl | exact dp | exact oc rfl (hse) | exact oc rfl (w1) | exact oc rfl (w2))) | ((with_reducible apply zN); exact dn) | ((with_reducible apply zA); exact da) | ((with_reducible apply zS); exact ds) | ((with_reducible apply zY); exact rfl; exact rfl; exact tf) | ((with_reducible apply zG); exact rfl; exact rfl; exact tf) | ((with_reducible apply zU); exact rfl; exact rfl) | ((with_reducible apply zD); exact rfl; exact rfl) | ((with_reducible apply zB); exact rfl; exact rfl)))
              exact ⟨k + 1, c * max 1 ((A.getD k a0).hi - (A.getD k a0).lo + 1), ⟨hlt, hm.1, by omega, hd⟩, by omega, (And.intro rfl (And.intro rfl (And.intro rfl trivial))), (And.intro rfl trivial)⟩
      · rw [decide_eq_false he] at hse hd
        (repeat' (first | (with_reducible first | intro hg | refine mv (by constructor) ?_) | ((with_reducible first | refine zR ?_ ?_ | refine zW mixed ?_ ?_); exact kr) | ((with_reducible apply zK); exact rfl; exact tf) | ((with_reducible apply zCD); exact rfl) | ((with_reducible apply zCN); exact rfl) | ((with_reducible apply zC); exact rfl) | ((with_reducible refine zX ?_ ?_); exact rfl) | ((with_reducible refine zE (And.intro ?_ ?_)); exact kr) | (with_reducible refine zE ?_) | ((with_reducible apply zP); (first | exact o_indexF a0 actC_len (by decide) rfl rfl (by omega) rfl | exact dp | exact oc rfl (hse))) | ((with_reducible apply zN); exact dn) | ((with_reducible apply zA); exact da) | ((with_reducible apply zS); exact ds) | ((with_reducible apply zY); exact rfl; exact rfl; exact tf) | ((with_reducible apply zG); exact rfl; exact rfl; exact tf) | ((with_reducible apply zU); exact rfl; exact rfl) | ((with_reducible apply zD); exact rfl; exact rfl) | ((with_reducible apply zB); exact rfl; exact rfl)))
        ((with_reducible first | apply q_retR | apply q_retN); exact rl)
        rw [hr, ← hd]; rfl
    · rw [List.drop_of_length_le (by omega)] at hd
      (repeat' (first | (with_reducible first | intro hg | refine mv (by constructor) ?_) | ((with_reducible first | refine zR ?_ ?_ | refine zW mixed ?_ ?_); exact kr) | ((with_reducible apply zK); exact rfl; exact tf) | ((with_reducible apply zCD); exact rfl) | ((with_reducible apply zCN); exact rfl) | ((with_reducible apply zC); exact rfl) | ((with_reducible refine zX ?_ ?_); exact rfl) | ((with_reducible refine zE (And.intro ?_ ?_)); exact kr) | (with_reducible refine zE ?_) | ((with_reducible apply zP); exact dp) | ((with_reducible apply zN); exact dn) | ((with_reducible apply zA); exact da) | ((with_reducible apply zS); exact ds) | ((with_reducible apply zY); exact rfl; exact rfl; exact tf) | ((with_reducible apply zG); exact rfl; exact rfl; exact tf) | ((with_reducible apply zU); exact rfl; exact rfl) | ((with_reducible apply zD); exact rfl; exact rfl) | ((with_reducible apply zB); exact rfl; exact rfl)))
      ((with_reducible first | apply q_retR | apply q_retN); exact rl)
      rw [hr, ← hd]; rfl
  · rw [decide_eq_false hT] at hs
    have hr : fewP T A = false := by unfold fewP; rw [decide_eq_false hT]; rfl
    refine ac_body Tryz.func7 rfl (by kernel_rfl) fun w0 ok => ?_; show AWp _ (ctx0 w0 ok _) _ (ARet _ _ _) (entry _)
    (repeat' (first | (with_reducible first | intro hg | refine mv (by constructor) ?_) | ((with_reducible first | refine zR ?_ ?_ | refine zW mixed ?_ ?_); exact kr) | ((with_reducible apply zK); exact rfl; exact tf) | ((with_reducible apply zCD); exact rfl) | ((with_reducible apply zCN); exact rfl) | ((with_reducible apply zC); exact rfl) | ((with_reducible refine zX ?_ ?_); exact rfl) | ((with_reducible refine zE (And.intro ?_ ?_)); exact kr) | (with_reducible refine zE ?_) | ((with_reducible apply zP); (first | exact dp | exact oc rfl (hs))) | ((with_reducible apply zN); exact dn) | ((with_reducible apply zA); exact da) | ((with_reducible apply zS); exact ds) | ((with_reducible apply zY); exact rfl; exact rfl; exact tf) | ((with_reducible apply zG); exact rfl; exact rfl; exact tf) | ((with_reducible apply zU); exact rfl; exact rfl) | ((with_reducible apply zD); exact rfl; exact rfl) | ((with_reducible apply zB); exact rfl; exact rfl)))
    ((with_reducible first | apply q_retR | apply q_retN); exact rl)
    rw [hr]; rfl

theorem rulE_h {T : List Int} {A : List Act3} {e : Int} (h : rulH T A = e) (he : e ≠ 0) : rulE T A = (0, e) := by
  unfold rulE; rw [h, show (e == 0) = false from beq_eq_false_iff_ne.2 he]; rfl
theorem refCheckRules_A (T : List Int) (A : List Act3) (hl : LenOk T A) : AC Tryz.prog 62 [rulV T A] (.tuple [I (rulE T A).1, I (rulE T A).2]) := by
  obtain ⟨hT, hA, hE⟩ := hl
  by_cases h1 : (0 : Int) < T.length
  rotate_left
  · have hr := rulE_h (T := T) (A := A) (e := 10) (by unfold rulH; rw [fst0_stop (by decide) (decide_eq_false h1)]) (by decide)
    refine ac_body Tryz.func62 rfl (by kernel_rfl) fun w0 ok => ?_; show AWp _ (ctx0 w0 ok _) _ (ARet _ _ _) (entry _)
    (repeat' (first | (with_reducible first | intro hg | refine mv (by constructor) ?_) | ((with_reducible first | refine zR ?_ ?_ | refine zW mixed ?_ ?_); exact kr) | ((with_reducible apply zK); exact rfl; exact tf) | ((with_reducible apply zCD); exact rfl) | ((with_reducible apply zCN); exact rfl) | ((with_reducible apply zC); exact rfl) | ((with_reducible refine zX ?_ ?_); exact rfl) | ((with_reducible refine zE (And.intro ?_ ?_)); exact kr) | (with_reducible refine zE ?_) | ((with_reducible apply zP); exact dp) | ((with_reducible apply zN); exact dn) | ((with_reducible apply zA); exact da) | ((with_reducible apply zS); exact ds) | ((with_reducible apply zY); exact rfl; exact rfl; exact tf) | ((with_reducible apply zG); exact rfl; exact rfl; exact tf) | ((with_reducible apply zU); exact rfl; exact rfl) | ((with_reducible apply zD); exact rfl; exact rfl) | ((with_reducible apply zB); exact rfl; exact rfl)))
    ((with_reducible first | apply q_retR | apply q_retN); exact rl)
    rw [hr]; rfl
  by_cases h2 : (T.length : Int) ≤ 9
  rotate_left
  · have hr := rulE_h (T := T) (A := A) (e := 8) (by unfold rulH; rw [fst0_skip (decide_eq_true h1), fst0_stop (by decide) (decide_eq_false h2)]) (by decide)
    refine ac_body Tryz.func62 rfl (by kernel_rfl) fun w0 ok => ?_; show AWp _ (ctx0 w0 ok _) _ (ARet _ _ _) (entry _)
    (repeat' (first | (with_reducible first | intro hg | refine mv (by constructor) ?_) | ((with_reducible first | refine zR ?_ ?_ | refine zW mixed ?_ ?_); exact kr) | ((with_reducible apply zK); exact rfl; exact tf) | ((with_reducible apply zCD); exact rfl) | ((with_reducible apply zCN); exact rfl) | ((with_reducible apply zC); exact rfl) | ((with_reducible refine zX ?_ ?_); exact rfl) | ((with_reducible refine zE (And.intro ?_ ?_)); exact kr) | (with_reducible refine zE ?_) | ((with_reducible apply zP); exact dp) | ((with_reducible apply zN); exact dn) | ((with_reducible apply zA); exact da) | ((with_reducible apply zS); exact ds) | ((with_reducible apply zY); exact rfl; exact rfl; exact tf) | ((with_reducible apply zG); exact rfl; exact rfl; exact tf) | ((with_reducible apply zU); exact rfl; exact rfl) | ((with_reducible apply zD); exact rfl; exact rfl) | ((with_reducible apply zB); exact rfl; exact rfl)))
    ((with_reducible first | apply q_retR | apply q_retN); exact rl)
    rw [hr]; rfl
  have e3 : rulH T A = fst0 [unl (!(T.any fun x => !inR x (-100000) 100000)) 2, unl (decide (0 < (A.length : Int))) 10, unl (decide ((A.length : Int) ≤ 3)) 8] := by
    unfold rulH; rw [fst0_skip (decide_eq_true h1), fst0_skip (decide_eq_true h2)]
  refine ac_body Tryz.func62 rfl (by kernel_rfl) fun w0 ok => ?_; show AWp _ (ctx0 w0 ok _) _ (ARet _ _ _) (entry _)
  (repeat' (first | (with_reducible first | intro hg | refine mv (by constructor) ?_) | ((with_reducible first | refine zR ?_ ?_ | refine zW mixed ?_ ?_); exact kr) | ((with_reducible apply zK); exact rfl; exact tf) | ((with_reducible apply zCD); exact rfl) | ((with_reducible apply zCN); exact rfl) | ((with_reducible apply zC); exact rfl) | ((with_reducible refine zX ?_ ?_); exact rfl) | ((with_reducible refine zE (And.intro ?_ ?_)); exact kr) | (with_reducible refine zE ?_) | ((with_reducible apply zP); exact dp) | ((with_reducible apply zN); exact dn) | ((with_reducible apply zA); exact da) | ((with_reducible apply zS); exact ds) | ((with_reducible apply zY); exact rfl; exact rfl; exact tf) | ((with_reducible apply zG); exact rfl; exact rfl; exact tf) | ((with_reducible apply zU); exact rfl; exact rfl) | ((with_reducible apply zD); exact rfl; exact rfl) | ((with_reducible apply zB); exact rfl; exact rfl)))
  refine awp_loopL (α := Nat) (fun k => [(1, .ptr 1 0), (4, .d (I T.length)), (5, .d (I k))]) (fun _ => [(1, ⟨25, rulC T A⟩)]) (fun k => k ≤ T.length ∧ ((T.drop k).any fun n => !inR n (-100000) 100000) = (T.any fun n => !inR n (-100000) 100000)) (fun k => T.length - k) 0 ⟨Nat.zero_le _, rfl⟩ (And.intro rfl (And.intro rfl (And.intro rfl trivial))) (And.intro rfl trivial) fun k ⟨hk, hd⟩ => ?_
  by_cases hlt : k < T.length
  · have hw := bwithin_A (nth T k) (-100000) 100000
    rw [any_step hlt] at hd
    cases hq : inR (nth T k) (-100000) 100000
    all_goals rw [hq] at hw hd
    · have hr := rulE_h (T := T) (A := A) (e := 2) (by rw [e3, fst0_stop (by decide) (by rw [← hd]; rfl)]) (by decide)
      (repeat' (first | (with_reducible first | intro hg | refine mv (by constructor) ?_) | ((with_reducible first | refine zR ?_ ?_ | refine zW mixed ?_ ?_); exact kr) | ((with_reducible apply zK); exact rfl; exact tf) | ((with_reducible apply zCD); exact rfl) | ((with_reducible apply zCN); exact rfl) | ((with_reducible apply zC); exact rfl) | ((with_reducible refine zX ?_ ?_); exact rfl) | ((with_reducible refine zE (And.intro ?_ ?_)); exact kr) | (with_reducible refine zE ?_) | ((with_reducible apply zP); (first | exact o_indexI (j := k) (xs := T) rfl rfl (by omega) rfl | exact dp | exact oc rfl (hw))) | ((with_reducible apply zN); exact dn) | ((with_reducible apply zA); exact da) | ((with_reducible apply zS); exact ds) | ((with_reducible apply zY); exact rfl; exact rfl; exact tf) | ((with_reducible apply zG); exact rfl; exact rfl; exact tf) | ((with_reducible apply zU); exact rfl; exact rfl) | ((with_reducible apply zD); exact rfl; exact rfl) | ((with_reducible apply zB); exact rfl; exact rfl)))
      ((with_reducible first | apply q_retR | apply q_retN); exact rl)
      rw [hr]; rfl
    · (repeat' (first | (with_reducible first | intro hg | refine mv (by constructor) ?_) | ((with_reducible first | refine zR ?_ ?_ | refine zW mixed ?_ ?_); exact kr) | ((with_reducible apply zK); exact rfl; exact tf) | ((with_reducible apply zCD); exact rfl) | ((with_reducible apply zCN); exact rfl) | ((with_reducible apply zC); exact rfl) | ((with_reducible refine zX ?_ ?_); exact rfl) | ((with_reducible refine zE (And.intro ?_ ?_)); exact kr) | (with_reducible refine zE ?_) | ((with_reducible apply zP); (first | exact o_indexI (j := k) (xs := T) rfl rfl (by omega) rfl | exact dp | exact oc rfl (hw))) | ((with_reducible apply zN); exact dn) | ((with_reducible apply zA); exact da) | ((with_reducible apply zS); exact ds) | ((with_reducible apply zY); exact rfl; exact rfl; exact tf) | ((with_reducible apply zG); exact rfl; exact rfl; exact tf) | ((with_reducible apply zU); exact rfl; exact rfl) | ((with_reducible apply zD); exact rfl; exact rfl) | ((with_reducible apply zB); exact rfl; exact rfl)))
      exact ⟨k + 1, ⟨hlt, hd⟩, by omega, (And.intro rfl (And.intro rfl (And.intro rfl trivial))), (And.intro rfl trivial)⟩
  rw [any_end hlt] at hd
  have e4 : rulH T A = fst0 [unl (decide (0 < (A.length : Int))) 10, unl (decide ((A.length : Int) ≤ 3)) 8] := by rw [e3, fst0_skip (by rw [← hd]; rfl)]
  by_cases h5 : (0 : Int) < A.length
  rotate_left
  · have hr := rulE_h (T := T) (A := A) (e := 10) (by rw [e4, fst0_stop (by decide) (decide_eq_false h5)]) (by decide)
    (repeat' (first | (with_reducible first | intro hg | refine mv (by constructor) ?_) | ((with_reducible first | refine zR ?_ ?_ | refine zW mixed ?_ ?_); exact kr) | ((with_reducible apply zK); exact rfl; exact tf) | ((with_reducible apply zCD); exact rfl) | ((with_reducible apply zCN); exact rfl) | ((with_reducible apply zC); exact rfl) | ((with_reducible refine zX ?_ ?_); exact rfl) | ((with_reducible refine zE (And.intro ?_ ?_)); exact kr) | (with_reducible refine zE ?_) | ((with_reducible apply zP); exact dp) | ((with_reducible apply zN); exact dn) | ((with_reducible apply zA); exact da) | ((with_reducible apply zS); exact ds) | ((with_reducible apply zY); exact rfl; exact rfl; exact tf) | ((with_reducible apply zG); exact rfl; exact rfl; exact tf) | ((with_reducible apply zU); exact rfl; exact rfl) | ((with_reducible apply zD); exact rfl; exact rfl) | ((with_reducible apply zB); exact rfl; exact rfl)))
    ((with_reducible first | apply q_retR | apply q_retN); exact rl)
    rw [hr]; rfl
  by_cases h6 : (A.length : Int) ≤ 3
  rotate_left
  · have hr := rulE_h (T := T) (A := A) (e := 8) (by rw [e4, fst0_skip (decide_eq_true h5), fst0_stop (by decide) (decide_eq_false h6)]) (by decide)
    (repeat' (first | (with_reducible first | intro hg | refine mv (by constructor) ?_) | ((with_reducible first | refine zR ?_ ?_ | refine zW mixed ?_ ?_); exact kr) | ((with_reducible apply zK); exact rfl; exact tf) | ((with_reducible apply zCD); exact rfl) | ((with_reducible apply zCN); exact rfl) | ((with_reducible apply zC); exact rfl) | ((with_reducible refine zX ?_ ?_); exact rfl) | ((with_reducible refine zE (And.intro ?_ ?_)); exact kr) | (with_reducible refine zE ?_) | ((with_reducible apply zP); exact dp) | ((with_reducible apply zN); exact dn) | ((with_reducible apply zA); exact da) | ((with_reducible apply zS); exact ds) | ((with_reducible apply zY); exact rfl; exact rfl; exact tf) | ((with_reducible apply zG); exact rfl; exact rfl; exact tf) | ((with_reducible apply zU); exact rfl; exact rfl) | ((with_reducible apply zD); exact rfl; exact rfl) | ((with_reducible apply zB); exact rfl; exact rfl)))
    ((with_reducible first | apply q_retR | apply q_retN); exact rl)
    rw [hr]; rfl
  have e0 : rulH T A = 0 := by rw [e4, fst0_skip (decide_eq_true h5), fst0_skip (decide_eq_true h6)]; rfl
  have hr : rulE T A = actsE T.length A 0 := by unfold rulE; rw [e0]; rfl
  (repeat' (first | (with_reducible first | intro hg | refine mv (by constructor) ?_) | ((with_reducible first | refine zR ?_ ?_ | refine zW mixed ?_ ?_); exact kr) | ((with_reducible apply zK); exact rfl; exact tf) | ((with_reducible apply zCD); exact rfl) | ((with_reducible apply zCN); exact rfl) | ((with_reducible apply zC); exact rfl) | ((with_reducible refine zX ?_ ?_); exact rfl) | ((with_reducible refine zE (And.intro ?_ ?_)); exact kr) | (with_reducible refine zE ?_) | ((with_reducible apply zP); exact dp) | ((with_reducible apply zN); exact dn) | ((with_reducible apply zA); exact da) | ((with_reducible apply zS); exact ds) | ((with_reducible apply zY); exact rfl; exact rfl; exact tf) | ((with_reducible apply zG); exact rfl; exact rfl; exact tf) | ((with_reducible apply zU); exact rfl; exact rfl) | ((with_reducible apply zD); exact rfl; exact rfl) | ((with_reducible apply zB); exact rfl; exact rfl)))
  refine awp_loopL (α := Nat) (fun k => [(1, .ptr 1 0), (4, .d (I T.length)), (6, .d (I k))]) (fun _ => [(1, ⟨25, rulC T A⟩)]) (fun k => k ≤ A.length ∧ actsE T.length (A.drop k) k = rulE T A) (fun k => A.length - k) 0 ⟨Nat.zero_le _, hr.symm⟩ (And.intro rfl (And.intro rfl (And.intro rfl trivial))) (And.intro rfl trivial) fun k ⟨hk, hd⟩ => ?_
  by_cases hlt : k < A.length
  rotate_left
  · (repeat' (first | (with_reducible first | intro hg | refine mv (by constructor) ?_) | ((with_reducible first | refine zR ?_ ?_ | refine zW mixed ?_ ?_); exact kr) | ((with_reducible apply zK); exact rfl; exact tf) | ((with_reducible apply zCD); exact rfl) | ((with_reducible apply zCN); exact rfl) | ((with_reducible apply zC); exact rfl) | ((with_reducible refine zX ?_ ?_); exact rfl) | ((with_reducible refine zE (And.intro ?_ ?_)); exact kr) | (with_reducible refine zE ?_) | ((with_reducible apply zP); exact dp) | ((with_reducible apply zN); exact dn) | ((with_reducible apply zA); exact da) | ((with_reducible apply zS); exact ds) | ((with_reducible apply zY); exact rfl; exact rfl; exact tf) | ((with_reducible apply zG); exact rfl; exact rfl; exact tf) | ((with_reducible apply zU); exact rfl; exact rfl) | ((with_reducible apply zD); exact rfl; exact rfl) | ((with_reducible apply zB); exact rfl; exact rfl)))
    ((with_reducible first | apply q_retR | apply q_retN); exact rl)
    rw [← hd, List.drop_of_length_le (by omega)]; rfl
  have hel := hE _ (act_mem hlt)
  have w1 := bwithin_A (A.getD k a0).lo (-10) 10
  have w2 := bwithin_A (A.getD k a0).hi (-10) 10
  rw [drop_getA hlt] at hd
  have hz : actE T.length (A.getD k a0) = 0 → actsE T.length (A.drop (k + 1)) (k + 1) = rulE T A := fun h => by rw [← hd, actsE_zero h]
  have hn : ∀ e, actE T.length (A.getD k a0) = e → e ≠ 0 → rulE T A = ((k : Int), e) := fun e h h0 => by rw [← hd, actsE_ne (by rw [h]; exact h0), h]
  have ha : actE T.length (A.getD k a0) = fst0 [unl (inR (A.getD k a0).lo (-10) 10 && inR (A.getD k a0).hi (-10) 10) 2, unl (decide ((A.getD k a0).lo ≤ (A.getD k a0).hi)) 9, unl (decide (((A.getD k a0).eff.length : Int) = T.length)) 10, unl (!((A.getD k a0).eff.any fun x => !inR x (-1000) 1000)) 2] := rfl
  cases i1 : inR (A.getD k a0).lo (-10) 10
  · rw [i1] at w1 ha
    have := hn 2 (by rw [ha, Bool.false_and, fst0_stop (by decide) rfl]) (by decide)
    (repeat' (first | (with_reducible first | intro hg | refine mv (by constructor) ?_) | ((with_reducible first | refine zR ?_ ?_ | refine zW mixed ?_ ?_); exact kr) | ((with_reducible apply zK); exact rfl; exact tf) | ((with_reducible apply zCD); exact rfl) | ((with_reducible apply zCN); exact rfl) | ((with_reducible apply zC); exact rfl) | ((with_reducible refine zX ?_ ?_); exact rfl) | ((with_reducible refine zE (And.intro ?_ ?_)); exact kr) | (with_reducible refine zE ?_) | ((with_reducible apply zP); (first | exact o_indexF a0 actC_len (by decide) rfl rfl (by omega) rfl | exact dp | exact oc rfl (w1))) | ((with_reducible apply zN); exact dn) | ((with_reducible apply zA); exact da) | ((with_reducible apply zS); exact ds) | ((with_reducible apply zY); exact rfl; exact rfl; exact tf) | ((with_reducible apply zG); exact rfl; exact rfl; exact tf) | ((with_reducible apply zU); exact rfl; exact rfl) | ((with_reducible apply zD); exact rfl; exact rfl) | ((with_reducible apply zB); exact rfl; exact rfl)))
    ((with_reducible first | apply q_retR | apply q_retN); exact rl)
    rw [this]; rfl
  cases i2 : inR (A.getD k a0).hi (-10) 10
  · rw [i1] at w1
    rw [i2] at w2
    rw [i1, i2, Bool.true_and] at ha
    have := hn 2 (by rw [ha, fst0_stop (by decide) rfl]) (by decide)
    (repeat' (first | (with_reducible first | intro hg | refine mv (by constructor) ?_) | ((with_reducible first | refine zR ?_ ?_ | refine zW mixed ?_ ?_); exact kr) | ((with_reducible apply zK); exact rfl; exact tf) | ((with_reducible apply zCD); exact rfl) | ((with_reducible apply zCN); exact rfl) | ((with_reducible apply zC); exact rfl) | ((with_reducible refine zX ?_ ?_); exact rfl) | ((with_reducible refine zE (And.intro ?_ ?_)); exact kr) | (with_reducible refine zE ?_) | ((with_reducible apply zP); (first | exact o_indexF a0 actC_len (by decide) rfl rfl (by omega) rfl | exact dp | exact oc rfl (w1) | exact oc rfl (w2))) | ((with_reducible apply zN); exact dn) | ((with_reducible apply zA); exact da) | ((with_reducible apply zS); exact ds) | ((with_reducible apply zY); exact rfl; exact rfl; exact tf) | ((with_reducible apply zG); exact rfl; exact rfl; exact tf) | ((with_reducible apply zU); exact rfl; exact rfl) | ((with_reducible apply zD); exact rfl; exact rfl) | ((with_reducible apply zB); exact rfl; exact rfl)))
    ((with_reducible first | apply q_retR | apply q_retN); exact rl)
    rw [this]; rfl
  rw [i1] at w1
  rw [i2] at w2
  rw [i1, i2, Bool.true_and, fst0_skip rfl] at ha
  by_cases h7 : (A.getD k a0).lo ≤ (A.getD k a0).hi
  rotate_left
  · have := hn 9 (by rw [ha, fst0_stop (by decide) (decide_eq_false h7)]) (by decide)
    (repeat' (first | (with_reducible first | intro hg | refine mv (by constructor) ?_) | ((with_reducible first | refine zR ?_ ?_ | refine zW mixed ?_ ?_); exact kr) | ((with_reducible apply zK); exact rfl; exact tf) | ((with_reducible apply zCD); exact rfl) | ((with_reducible apply zCN); exact rfl) | ((with_reducible apply zC); exact rfl) | ((with_reducible refine zX ?_ ?_); exact rfl) | ((with_reducible refine zE (And.intro ?_ ?_)); exact kr) | (with_reducible refine zE ?_) | ((with_reducible apply zP); (first | exact o_indexF a0 actC_len (by decide) rfl rfl (by omega) rfl | exact dp | exact oc rfl (w1) | exact oc rfl (w2))) | ((with_reducible apply zN); exact dn) | ((with_reducible apply zA); exact da) | ((with_reducible apply zS); exact ds) | ((with_reducible apply zY); exact rfl; exact rfl; exact tf) | ((with_reducible apply zG); exact rfl; exact rfl; exact tf) | ((with_reducible apply zU); exact rfl; exact rfl) | ((with_reducible apply zD); exact rfl; exact rfl) | ((with_reducible apply zB); exact rfl; exact rfl)))
    ((with_reducible first | apply q_retR | apply q_retN); exact rl)
    rw [this]; rfl
  rw [fst0_skip (decide_eq_true h7)] at ha
  by_cases h8 : ((A.getD k a0).eff.length : Int) = T.length
  rotate_left
  · have := hn 10 (by rw [ha, fst0_stop (by decide) (decide_eq_false h8)]) (by decide)
    (repeat' (first | (with_reducible first | intro hg | refine mv (by constructor) ?_) | ((with_reducible first | refine zR ?_ ?_ | refine zW mixed ?_ ?_); exact kr) | ((with_reducible apply zK); exact rfl; exact tf) | ((with_reducible apply zCD); exact rfl) | ((with_reducible apply zCN); exact rfl) | ((with_reducible apply zC); exact rfl) | ((with_reducible refine zX ?_ ?_); exact rfl) | ((with_reducible refine zE (And.intro ?_ ?_)); exact kr) | (with_reducible refine zE ?_) | ((with_reducible apply zP); (first | exact o_indexF a0 actC_len (by decide) rfl rfl (by omega) rfl | exact dp | exact oc rfl (w1) | exact oc rfl (w2))) | ((with_reducible apply zN); exact dn) | ((with_reducible apply zA); exact da) | ((with_reducible apply zS); exact ds) | ((with_reducible apply zY); exact rfl; exact rfl; exact tf) | ((with_reducible apply zG); exact rfl; exact rfl; exact tf) | ((with_reducible apply zU); exact rfl; exact rfl) | ((with_reducible apply zD); exact rfl; exact rfl) | ((with_reducible apply zB); exact rfl; exact rfl)))
    ((with_reducible first | apply q_retR | apply q_retN); exact rl)
    rw [this]; rfl
  rw [fst0_skip (decide_eq_true h8), fst0_one] at ha
  (repeat' (first | (with_reducible first | intro hg | refine mv (by constructor) ?_) | ((with_reducible first | refine zR ?_ ?_ | refine zW mixed ?_ ?_); exact kr) | ((with_reducible apply zK); exact rfl; exact tf) | ((with_reducible apply zCD); exact rfl) | ((with_reducible apply zCN); exact rfl) | ((with_reducible apply zC); exact rfl) | ((with_reducible refine zX ?_ ?_); exact rfl) | ((with_reducible refine zE (And.intro ?_ ?_)); exact kr) | (with_reducible refine zE ?_) | ((with_reducible apply zP); (first | exact o_indexF a0 actC_len (by decide) rfl rfl (by omega) rfl | exact dp | exact oc rfl (w1) | exact oc rfl (w2))) | ((with_reducible apply zN); exact dn) | ((with_reducible apply zA); exact da) | ((with_reducible apply zS); exact ds) | ((with_reducible apply zY); exact rfl; exact rfl; exact tf) | ((with_reducible apply zG); exact rfl; exact rfl; exact tf) | ((with_reducible apply zU); exact rfl; exact rfl) | ((with_reducible apply zD); exact rfl; exact rfl) | ((with_reducible apply zB); exact rfl; exact rfl)))
  refine awp_loopL (α := Nat) (fun j => [(1, .ptr 1 0), (4, .d (I T.length)), (6, .d (I k)), (7, .ptr 7 0), (8, .d (I j))]) (fun _ => [(1, ⟨25, rulC T A⟩), (7, ⟨90, actC (A.getD k a0)⟩)]) (fun j => j ≤ T.length ∧ (((A.getD k a0).eff.drop j).any fun n => !inR n (-1000) 1000) = ((A.getD k a0).eff.any fun n => !inR n (-1000) 1000)) (fun j => T.length - j) 0 ⟨Nat.zero_le _, rfl⟩ (And.intro rfl (And.intro rfl (And.intro rfl (And.intro rfl (And.intro rfl trivial))))) (And.intro rfl (And.intro rfl trivial)) fun j ⟨hj, hd2⟩ => ?_
  by_cases hlj : j < T.length
  · have hw := bwithin_A (nth (A.getD k a0).eff j) (-1000) 1000
    rw [any_step (by omega)] at hd2
    cases hq : inR (nth (A.getD k a0).eff j) (-1000) 1000
    all_goals rw [hq] at hw hd2
    · have := hn 2 (by rw [ha, ← hd2]; rfl) (by decide)
      (repeat' (first | (with_reducible first | intro hg | refine mv (by constructor) ?_) | ((with_reducible first | refine zR ?_ ?_ | refine zW mixed ?_ ?_); exact kr) | ((with_reducible apply zK); exact rfl; exact tf) | ((with_reducible apply zCD); exact rfl) | ((with_reducible apply zCN); exact rfl) | ((with_reducible apply zC); exact rfl) | ((with_reducible refine zX ?_ ?_); exact rfl) | ((with_reducible refine zE (And.intro ?_ ?_)); exact kr) | (with_reducible refine zE ?_) | ((with_reducible apply zP); (first | exact o_indexI (j := j) (xs := (A.getD k a0).eff) rfl rfl (by omega) rfl | exact dp | exact oc rfl (hw))) | ((with_reducible apply zN); exact dn) | ((with_reducible apply zA); exact da) | ((with_reducible apply zS); exact ds) | ((with_reducible apply zY); exact rfl; exact rfl; exact tf) | ((with_reducible apply zG); exact rfl; exact rfl; exact tf) | ((with_reducible apply zU); exact rfl; exact rfl) | ((with_reducible apply zD); exact rfl; exact rfl) | ((with_reducible apply zB); exact rfl; exact rfl)))
      ((with_reducible first | apply q_retR | apply q_retN); exact rl)
      rw [this]; rfl
    · (repeat' (first | (with_reducible first | intro hg | refine mv (by constructor) ?_) | ((with_reducible first | refine zR ?_ ?_ | refine zW mixed ?_ ?_); exact kr) | ((with_reducible apply zK); exact rfl; exact tf) | ((with_reducible apply zCD); exact rfl) | ((with_reducible apply zCN); exact rfl) | ((with_reducible apply zC); exact rfl) | ((with_reducible refine zX ?_ ?_); exact rfl) | ((with_reducible refine zE (And.intro ?_ ?_)); exact kr) | (with_reducible refine zE ?_) | ((with_reducible apply zP); (first | exact o_indexI (j := j) (xs := (A.getD k a0).eff) rfl rfl (by omega) rfl | exact dp | exact oc rfl (hw))) | ((with_reducible apply zN); exact dn) | ((with_reducible apply zA); exact da) | ((with_reducible apply zS); exact ds) | ((with_reducible apply zY); exact rfl; exact rfl; exact tf) | ((with_reducible apply zG); exact rfl; exact rfl; exact tf) | ((with_reducible apply zU); exact rfl; exact rfl) | ((with_reducible apply zD); exact rfl; exact rfl) | ((with_reducible apply zB); exact rfl; exact rfl)))
      exact ⟨j + 1, ⟨hlj, hd2⟩, by omega, (And.intro rfl (And.intro rfl (And.intro rfl (And.intro rfl (And.intro rfl trivial))))), (And.intro rfl (And.intro rfl trivial))⟩
  rw [any_end (by omega)] at hd2
  (repeat' (first | (with_reducible first | intro hg | refine mv (by constructor) ?_) | ((with_reducible first | refine zR ?_ ?_ | refine zW mixed ?_ ?_); exact kr) | ((with_reducible apply zK); exact rfl; exact tf) | ((with_reducible apply zCD); exact rfl) | ((with_reducible apply zCN); exact rfl) | ((with_reducible apply zC); exact rfl) | ((with_reducible refine zX ?_ ?_); exact rfl) | ((with_reducible refine zE (And.intro ?_ ?_)); exact kr) | (with_reducible refine zE ?_) | ((with_reducible apply zP); exact dp) | ((with_reducible apply zN); exact dn) | ((with_reducible apply zA); exact da) | ((with_reducible apply zS); exact ds) | ((with_reducible apply zY); exact rfl; exact rfl; exact tf) | ((with_reducible apply zG); exact rfl; exact rfl; exact tf) | ((with_reducible apply zU); exact rfl; exact rfl) | ((with_reducible apply zD); exact rfl; exact rfl) | ((with_reducible apply zB); exact rfl; exact rfl)))
  exact ⟨k + 1, ⟨hlt, hz (by rw [ha, ← hd2]; rfl)⟩, by omega, (And.intro rfl (And.intro rfl (And.intro rfl trivial))), (And.intro rfl trivial)⟩
theorem rulesErr_A (T : List Int) (A : List Act3) (hl : LenOk T A) : AC Tryz.prog 21 [rulV T A] (I (rulE T A).2) := by
  have h := refCheckRules_A T A hl
  refine ac_body Tryz.func21 rfl (by kernel_rfl) fun w0 ok => ?_; show AWp _ (ctx0 w0 ok _) _ (ARet _ _ _) (entry _)
  (repeat' (first | (with_reducible first | intro hg | refine mv (by constructor) ?_) | ((with_reducible first | refine zR ?_ ?_ | refine zW mixed ?_ ?_); exact kr) | ((with_reducible apply zK); exact rfl; exact tf) | ((with_reducible apply zCD); exact rfl) | ((with_reducible apply zCN); exact rfl) | ((with_reducible apply zC); exact rfl) | ((with_reducible refine zX ?_ ?_); exact rfl) | ((with_reducible refine zE (And.intro ?_ ?_)); exact kr) | (with_reducible refine zE ?_) | ((with_reducible apply zP); (first | exact dp | exact oc rfl (h))) | ((with_reducible apply zN); exact dn) | ((with_reducible apply zA); exact da) | ((with_reducible apply zS); exact ds) | ((with_reducible apply zY); exact rfl; exact rfl; exact tf) | ((with_reducible apply zG); exact rfl; exact rfl; exact tf) | ((with_reducible apply zU); exact rfl; exact rfl) | ((with_reducible apply zD); exact rfl; exact rfl) | ((with_reducible apply zB); exact rfl; exact rfl)))
  ((with_reducible first | apply q_retR | apply q_retN); exact rl)
  rfl

end Go.Proofs.YtagpmpbmfjaiiaaGreatDoor
