/- Walks of flat: rules, deviations, the maximum. -/
import Derived.Test.YtagpmpbmfjaiiaaGreatDoorPd
set_option linter.unusedVariables false
set_option linter.unusedSimpArgs false
namespace Go.Proofs.YtagpmpbmfjaiiaaGreatDoor
open Go.RowKit
set_option maxRecDepth 20000

/-- The error of an actuator for so many positions. -/
def actE (n : Int) (a : Act3) : Int := fst0 [unl (inR a.lo (-10) 10 && inR a.hi (-10) 10) 2, unl (decide (a.lo ≤ a.hi)) 9, unl (decide ((a.eff.length : Int) = n)) 10, unl (!(a.eff.any fun x => !inR x (-1000) 1000)) 2]
theorem actorErr_A (a : Act3) (n : Int) (hm : a.eff.length ≤ 140737488355328) : AC Tryz.prog 99 [.agg (actC a), I n] (I (actE n a)) := by
  have h1 := sized_A 1000
  have h2 := allSized_A a.eff 2 1000 ⟨by decide, by decide⟩ hm
  refine ac_body Tryz.func99 rfl (by kernel_rfl) fun w0 ok => ?_; show AWp _ (ctx0 w0 ok _) _ (ARet _ _ _) (entry _)
  (repeat' (first | (with_reducible first | intro hg | refine mv (by constructor) ?_) | ((with_reducible first | refine zR ?_ ?_ | refine zW mixed ?_ ?_); exact kr) | ((with_reducible apply zK); exact rfl; exact tf) | ((with_reducible apply zCD); exact rfl) | ((with_reducible apply zCN); exact rfl) | ((with_reducible apply zC); exact rfl) | ((with_reducible refine zX ?_ ?_); exact rfl) | ((with_reducible refine zE (And.intro ?_ ?_)); exact kr) | (with_reducible refine zE ?_) | ((with_reducible apply zP); (first | exact dp | exact oc rfl (small_A _ _ ⟨by decide, by decide⟩) | exact oc rfl (unless_A _ _) | exact oc rfl (h1) | exact oc rfl (h2) | exact oc rfl (first4_A _ _ _ _))) | ((with_reducible apply zN); exact dn) | ((with_reducible apply zA); exact da) | ((with_reducible apply zS); exact ds) | ((with_reducible apply zY); exact rfl; exact rfl; exact tf) | ((with_reducible apply zG); exact rfl; exact rfl; exact tf) | ((with_reducible apply zU); exact rfl; exact rfl) | ((with_reducible apply zD); exact rfl; exact rfl) | ((with_reducible apply zB); exact rfl; exact rfl)))
  all_goals
    ((with_reducible first | apply q_retR | apply q_retN); exact rl)
    refine rt_int ?_
    unfold actE
    rw [hg]
    rfl
def actsE (n : Int) : List Act3 → Nat → Int × Int
  | [], _ => (0, 0)
  | a :: A, k => bif actE n a == 0 then actsE n A (k + 1) else ((k : Int), actE n a)
theorem actsE_zero {n : Int} {a : Act3} (h : actE n a = 0) (A : List Act3) (k : Nat) : actsE n (a :: A) k = actsE n A (k + 1) := by
  have : (actE n a == 0) = true := by rw [h]; rfl
  show (bif actE n a == 0 then _ else _) = _
  rw [this]; rfl
theorem actsE_ne {n : Int} {a : Act3} (h : actE n a ≠ 0) (A : List Act3) (k : Nat) : actsE n (a :: A) k = ((k : Int), actE n a) := by
  have : (actE n a == 0) = false := beq_eq_false_iff_ne.2 h
  show (bif actE n a == 0 then _ else _) = _
  rw [this]; rfl
def rulH (T : List Int) (A : List Act3) : Int := fst0 [unl (decide (0 < (T.length : Int))) 10, unl (decide ((T.length : Int) ≤ 9)) 8, unl (!(T.any fun x => !inR x (-100000) 100000)) 2, unl (decide (0 < (A.length : Int))) 10, unl (decide ((A.length : Int) ≤ 3)) 8]
/-- The error of rules, and at which actuator. -/
def rulE (T : List Int) (A : List Act3) : Int × Int := bif rulH T A == 0 then actsE T.length A 0 else (0, rulH T A)
/-- Rules and numbers of lengths that lie in memory. -/
def LenOk (T : List Int) (A : List Act3) : Prop := T.length ≤ 140737488355328 ∧ A.length ≤ 140737488355328 ∧ ∀ a ∈ A, a.eff.length ≤ 140737488355328
theorem drop_getA {A : List Act3} {k : Nat} (h : k < A.length) : A.drop k = A.getD k a0 :: A.drop (k + 1) := by
  rw [List.getD_eq_getElem?_getD, List.getElem?_eq_getElem h, List.drop_eq_getElem_cons h]; rfl
theorem checkRules_A (T : List Int) (A : List Act3) (hl : LenOk T A) : AC Tryz.prog 55 [rulV T A] (.tuple [I (rulE T A).1, I (rulE T A).2]) := by
  obtain ⟨hT, hA, hE⟩ := hl
  have h1 := sized_A 100000
  have h2 := allSized_A T 2 100000 ⟨by decide, by decide⟩ hT
  refine ac_body Tryz.func55 rfl (by kernel_rfl) fun w0 ok => ?_; show AWp _ (ctx0 w0 ok _) _ (ARet _ _ _) (entry _)
  (repeat' (first | (with_reducible first | intro hg | refine mv (by constructor) ?_) | ((with_reducible first | refine zR ?_ ?_ | refine zW mixed ?_ ?_); exact kr) | ((with_reducible apply zK); exact rfl; exact tf) | ((with_reducible apply zCD); exact rfl) | ((with_reducible apply zCN); exact rfl) | ((with_reducible apply zC); exact rfl) | ((with_reducible refine zX ?_ ?_); exact rfl) | ((with_reducible refine zE (And.intro ?_ ?_)); exact kr) | (with_reducible refine zE ?_) | ((with_reducible apply zP); (first | exact dp | exact oc rfl (unless_A _ _) | exact oc rfl (h1) | exact oc rfl (h2) | exact oc rfl (first5_A _ _ _ _ _))) | ((with_reducible apply zN); exact dn) | ((with_reducible apply zA); exact da) | ((with_reducible apply zS); exact ds) | ((with_reducible apply zY); exact rfl; exact rfl; exact tf) | ((with_reducible apply zG); exact rfl; exact rfl; exact tf) | ((with_reducible apply zU); exact rfl; exact rfl) | ((with_reducible apply zD); exact rfl; exact rfl) | ((with_reducible apply zB); exact rfl; exact rfl)))
  · ((with_reducible first | apply q_retR | apply q_retN); exact rl)
    have hg : rulH T A ≠ 0 := hg
    have : (rulH T A == 0) = false := by simp [hg]
    unfold rulE
    rw [this]
    rfl
  have hg : rulH T A = 0 := Decidable.not_not.1 hg
  have hr : rulE T A = actsE T.length A 0 := by unfold rulE; rw [hg]; rfl
  refine awp_loopL (α := Nat) (fun k => [(1, .ptr 1 0), (38, .d (actS A)), (39, .d (I A.length)), (40, .d (I k))]) (fun k => [(1, ⟨25, rulC T A⟩)]) (fun k => k ≤ A.length ∧ actsE T.length (A.drop k) k = rulE T A) (fun k => A.length - k) 0 ⟨Nat.zero_le _, hr.symm⟩ (And.intro rfl (And.intro rfl (And.intro rfl (And.intro rfl trivial)))) (And.intro rfl trivial) fun k ⟨hk, hd⟩ => ?_
  by_cases hlt : k < A.length
  · have hb := hE _ (act_mem hlt)
    have ha := actorErr_A (A.getD k a0) T.length hb
    rw [drop_getA hlt] at hd
    by_cases hz : actE T.length (A.getD k a0) = 0
    · rw [hz] at ha
      (repeat' (first | (with_reducible first | intro hg | refine mv (by constructor) ?_) | ((with_reducible first | refine zR ?_ ?_ | refine zW mixed ?_ ?_); exact kr) | ((with_reducible apply zK); exact rfl; exact tf) | ((with_reducible apply zCD); exact rfl) | ((with_reducible apply zCN); exact rfl) | ((with_reducible apply zC); exact rfl) | ((with_reducible refine zX ?_ ?_); exact rfl) | ((with_reducible refine zE (And.intro ?_ ?_)); exact kr) | (with_reducible refine zE ?_) | ((with_reducible apply zP); (first | exact o_indexF a0 actC_len (by decide) rfl rfl (by omega) rfl | exact dp | exact oc rfl (ha))) | ((with_reducible apply zN); exact dn) | ((with_reducible apply zA); exact da) | ((with_reducible apply zS); exact ds) | ((with_reducible apply zY); exact rfl; exact rfl; exact tf) | ((with_reducible apply zG); exact rfl; exact rfl; exact tf) | ((with_reducible apply zU); exact rfl; exact rfl) | ((with_reducible apply zD); exact rfl; exact rfl) | ((with_reducible apply zB); exact rfl; exact rfl)))
      exact ⟨k + 1, ⟨hlt, by rw [← hd, actsE_zero hz]⟩, by omega, (And.intro rfl (And.intro rfl (And.intro rfl (And.intro rfl trivial)))), (And.intro rfl trivial)⟩
    · (repeat' (first | (with_reducible first | intro hg | refine mv (by constructor) ?_) | ((with_reducible first | refine zR ?_ ?_ | refine zW mixed ?_ ?_); exact kr) | ((with_reducible apply zK); exact rfl; exact tf) | ((with_reducible apply zCD); exact rfl) | ((with_reducible apply zCN); exact rfl) | ((with_reducible apply zC); exact rfl) | ((with_reducible refine zX ?_ ?_); exact rfl) | ((with_reducible refine zE (And.intro ?_ ?_)); exact kr) | (with_reducible refine zE ?_) | ((with_reducible apply zP); (first | exact o_indexF a0 actC_len (by decide) rfl rfl (by omega) rfl | exact dp | exact oc rfl (ha))) | ((with_reducible apply zN); exact dn) | ((with_reducible apply zA); exact da) | ((with_reducible apply zS); exact ds) | ((with_reducible apply zY); exact rfl; exact rfl; exact tf) | ((with_reducible apply zG); exact rfl; exact rfl; exact tf) | ((with_reducible apply zU); exact rfl; exact rfl) | ((with_reducible apply zD); exact rfl; exact rfl) | ((with_reducible apply zB); exact rfl; exact rfl)))
      ((with_reducible first | apply q_retR | apply q_retN); exact rl)
      rw [← hd, actsE_ne hz]; rfl
  · (repeat' (first | (with_reducible first | intro hg | refine mv (by constructor) ?_) | ((with_reducible first | refine zR ?_ ?_ | refine zW mixed ?_ ?_); exact kr) | ((with_reducible apply zK); exact rfl; exact tf) | ((with_reducible apply zCD); exact rfl) | ((with_reducible apply zCN); exact rfl) | ((with_reducible apply zC); exact rfl) | ((with_reducible refine zX ?_ ?_); exact rfl) | ((with_reducible refine zE (And.intro ?_ ?_)); exact kr) | (with_reducible refine zE ?_) | ((with_reducible apply zP); exact dp) | ((with_reducible apply zN); exact dn) | ((with_reducible apply zA); exact da) | ((with_reducible apply zS); exact ds) | ((with_reducible apply zY); exact rfl; exact rfl; exact tf) | ((with_reducible apply zG); exact rfl; exact rfl; exact tf) | ((with_reducible apply zU); exact rfl; exact rfl) | ((with_reducible apply zD); exact rfl; exact rfl) | ((with_reducible apply zB); exact rfl; exact rfl)))
    ((with_reducible first | apply q_retR | apply q_retN); exact rl)
    rw [← hd, List.drop_of_length_le (by omega)]; rfl
theorem open_A (T : List Int) (A : List Act3) (hl : LenOk T A) : AC Tryz.prog 74 [rulV T A] (.tuple [rulV T A, I (rulE T A).2]) := by
  have h1 := checkRules_A T A hl
  refine ac_body Tryz.func74 rfl (by kernel_rfl) fun w0 ok => ?_; show AWp _ (ctx0 w0 ok _) _ (ARet _ _ _) (entry _)
  (repeat' (first | (with_reducible first | intro hg | refine mv (by constructor) ?_) | ((with_reducible first | refine zR ?_ ?_ | refine zW mixed ?_ ?_); exact kr) | ((with_reducible apply zK); exact rfl; exact tf) | ((with_reducible apply zCD); exact rfl) | ((with_reducible apply zCN); exact rfl) | ((with_reducible apply zC); exact rfl) | ((with_reducible refine zX ?_ ?_); exact rfl) | ((with_reducible refine zE (And.intro ?_ ?_)); exact kr) | (with_reducible refine zE ?_) | ((with_reducible apply zP); (first | exact dp | exact oc rfl (h1))) | ((with_reducible apply zN); exact dn) | ((with_reducible apply zA); exact da) | ((with_reducible apply zS); exact ds) | ((with_reducible apply zY); exact rfl; exact rfl; exact tf) | ((with_reducible apply zG); exact rfl; exact rfl; exact tf) | ((with_reducible apply zU); exact rfl; exact rfl) | ((with_reducible apply zD); exact rfl; exact rfl) | ((with_reducible apply zB); exact rfl; exact rfl)))
  ((with_reducible first | apply q_retR | apply q_retN); exact rl)
  rfl

/-- Valid rules. -/
structure RulOk (T : List Int) (A : List Act3) : Prop where
  t0 : 0 < T.length
  t9 : T.length ≤ 9
  tb : ∀ x ∈ T, -100000 ≤ x ∧ x ≤ 100000
  a0 : 0 < A.length
  a3 : A.length ≤ 3
  b : ∀ a ∈ A, (-10 ≤ a.lo ∧ a.lo ≤ 10) ∧ (-10 ≤ a.hi ∧ a.hi ≤ 10) ∧ a.lo ≤ a.hi ∧ a.eff.length = T.length ∧ ∀ x ∈ a.eff, -1000 ≤ x ∧ x ≤ 1000
/-- A deviation, with the first k actuators alone. -/
def devTo (T : List Int) (A : List Act3) (xs : List Int) (p : Nat) : Nat → Int
  | 0 => nth T p
  | k + 1 => devTo T A xs p k - nth xs k * nth (A.getD k a0).eff p
def devP (T : List Int) (A : List Act3) (xs : List Int) (p : Nat) : Int := devTo T A xs p A.length
/-- Settings for rules. -/
def SetOk (A : List Act3) (xs : List Int) : Prop := xs.length = A.length ∧ ∀ x ∈ xs, -10 ≤ x ∧ x ≤ 10
theorem devTo_bnd {T : List Int} {A : List Act3} {xs : List Int} (h : RulOk T A) (hs : SetOk A xs) {p : Nat} (hp : p < T.length) : ∀ k, k ≤ A.length → (devTo T A xs p k).natAbs ≤ 100000 + 10000 * k
  | 0, _ => by
    have := h.tb _ (nth_mem hp)
    unfold devTo; omega
  | k + 1, hk => by
    have h1 := devTo_bnd h hs hp k (by omega)
    have h2 := hs.2 _ (nth_mem (xs := xs) (k := k) (by rw [hs.1]; omega))
    obtain ⟨_, _, _, h3, h4⟩ := h.b _ (act_mem (A := A) (k := k) (by omega))
    have h5 := h4 _ (nth_mem (xs := (A.getD k Go.Proofs.YtagpmpbmfjaiiaaGreatDoor.a0).eff) (k := p) (by omega))
    have h6 := mul_rng (x := nth xs k) (e := nth (A.getD k Go.Proofs.YtagpmpbmfjaiiaaGreatDoor.a0).eff p) 10 1000 (by omega) (by omega)
    unfold devTo; omega
theorem deviation_A (T : List Int) (A : List Act3) (xs : List Int) (p : Nat) (h : RulOk T A) (hs : SetOk A xs) (hp : p < T.length) : AC Tryz.prog 106 [rulV T A, isl xs, I p] (I (devP T A xs p)) := by
  have ht9 := h.t9
  have ha3 := h.a3
  have hxl := hs.1
  refine ac_body Tryz.func106 rfl (by kernel_rfl) fun w0 ok => ?_; show AWp _ (ctx0 w0 ok _) _ (ARet _ _ _) (entry _)
  (repeat' (first | (with_reducible first | intro hg | refine mv (by constructor) ?_) | ((with_reducible first | refine zR ?_ ?_ | refine zW mixed ?_ ?_); exact kr) | ((with_reducible apply zK); exact rfl; exact tf) | ((with_reducible apply zCD); exact rfl) | ((with_reducible apply zCN); exact rfl) | ((with_reducible apply zC); exact rfl) | ((with_reducible refine zX ?_ ?_); exact rfl) | ((with_reducible refine zE (And.intro ?_ ?_)); exact kr) | (with_reducible refine zE ?_) | ((with_reducible apply zP); (first | exact o_indexI (j := p) rfl rfl hp rfl | exact dp)) | ((with_reducible apply zN); exact dn) | ((with_reducible apply zA); exact da) | ((with_reducible apply zS); exact ds) | ((with_reducible apply zY); exact rfl; exact rfl; exact tf) | ((with_reducible apply zG); exact rfl; exact rfl; exact tf) | ((with_reducible apply zU); exact rfl; exact rfl) | ((with_reducible apply zD); exact rfl; exact rfl) | ((with_reducible apply zB); exact rfl; exact rfl)))
  refine awp_loopL (α := Nat) (fun k => [(1, .d (isl xs)), (2, .d (I p)), (7, .d (I (devTo T A xs p k))), (18, .d (actS A)), (19, .d (I A.length)), (20, .d (I k))]) (fun _ => []) (fun k => k ≤ A.length) (fun k => A.length - k) 0 (Nat.zero_le _) (And.intro rfl (And.intro rfl (And.intro rfl (And.intro rfl (And.intro rfl (And.intro rfl trivial)))))) trivial fun k hk => ?_
  by_cases hlt : k < A.length
  · have hb := devTo_bnd h hs hp k hk
    have hb1 := devTo_bnd h hs hp (k + 1) hlt
    obtain ⟨_, _, _, h3, h4⟩ := h.b _ (act_mem hlt)
    have h2 := hs.2 _ (nth_mem (xs := xs) (k := k) (by omega))
    have h5 := h4 _ (nth_mem (xs := (A.getD k a0).eff) (k := p) (by omega))
    have h6 := mul_rng (x := nth xs k) (e := nth (A.getD k a0).eff p) 10 1000 (by omega) (by omega)
    (repeat' (first | (with_reducible first | intro hg | refine mv (by constructor) ?_) | ((with_reducible first | refine zR ?_ ?_ | refine zW mixed ?_ ?_); exact kr) | ((with_reducible apply zK); exact rfl; exact tf) | ((with_reducible apply zCD); exact rfl) | ((with_reducible apply zCN); exact rfl) | ((with_reducible apply zC); exact rfl) | ((with_reducible refine zX ?_ ?_); exact rfl) | ((with_reducible refine zE (And.intro ?_ ?_)); exact kr) | (with_reducible refine zE ?_) | ((with_reducible apply zP); (first | exact o_indexF a0 actC_len (by decide) rfl rfl (by omega) rfl | exact o_indexI (j := k) (xs := xs) rfl rfl (by omega) rfl | exact o_indexI (j := p) (xs := (A.getD k a0).eff) rfl rfl (by omega) rfl | exact dp)) | ((with_reducible apply zN); exact dn) | ((with_reducible apply zA); exact da) | ((with_reducible apply zS); exact ds) | ((with_reducible apply zY); exact rfl; exact rfl; exact tf) | ((with_reducible apply zG); exact rfl; exact rfl; exact tf) | ((with_reducible apply zU); exact rfl; exact rfl) | ((with_reducible apply zD); exact rfl; exact rfl) | ((with_reducible apply zB); exact rfl; exact rfl)))
    exact ⟨k + 1, hlt, by omega, (And.intro rfl (And.intro rfl (And.intro rfl (And.intro rfl (And.intro rfl (And.intro rfl trivial)))))), trivial⟩
  · (repeat' (first | (with_reducible first | intro hg | refine mv (by constructor) ?_) | ((with_reducible first | refine zR ?_ ?_ | refine zW mixed ?_ ?_); exact kr) | ((with_reducible apply zK); exact rfl; exact tf) | ((with_reducible apply zCD); exact rfl) | ((with_reducible apply zCN); exact rfl) | ((with_reducible apply zC); exact rfl) | ((with_reducible refine zX ?_ ?_); exact rfl) | ((with_reducible refine zE (And.intro ?_ ?_)); exact kr) | (with_reducible refine zE ?_) | ((with_reducible apply zP); exact dp) | ((with_reducible apply zN); exact dn) | ((with_reducible apply zA); exact da) | ((with_reducible apply zS); exact ds) | ((with_reducible apply zY); exact rfl; exact rfl; exact tf) | ((with_reducible apply zG); exact rfl; exact rfl; exact tf) | ((with_reducible apply zU); exact rfl; exact rfl) | ((with_reducible apply zD); exact rfl; exact rfl) | ((with_reducible apply zB); exact rfl; exact rfl)))
    ((with_reducible first | apply q_retR | apply q_retN); exact rl)
    exact rt_int (by unfold devP; rw [show k = A.length by omega])
/-- The maximum, of the first k positions. -/
def maxTo (T : List Int) (A : List Act3) (xs : List Int) : Nat → Int
  | 0 => 0
  | k + 1 => max (maxTo T A xs k) (devP T A xs k).natAbs
def maxP (T : List Int) (A : List Act3) (xs : List Int) : Int := maxTo T A xs T.length
theorem maxTo_bnd {T : List Int} {A : List Act3} {xs : List Int} (h : RulOk T A) (hs : SetOk A xs) : ∀ k, k ≤ T.length → 0 ≤ maxTo T A xs k ∧ maxTo T A xs k ≤ 130000
  | 0, _ => by unfold maxTo; omega
  | k + 1, hk => by
    have h1 := maxTo_bnd h hs k (by omega)
    have h2 := devTo_bnd h hs (p := k) (by omega) A.length (Nat.le_refl _)
    have h3 := h.a3
    unfold maxTo devP; omega
theorem maximum_A (T : List Int) (A : List Act3) (xs : List Int) (h : RulOk T A) (hs : SetOk A xs) : AC Tryz.prog 76 [rulV T A, isl xs] (I (maxP T A xs)) := by
  have ht9 := h.t9
  have ha3 := h.a3
  refine ac_body Tryz.func76 rfl (by kernel_rfl) fun w0 ok => ?_; show AWp _ (ctx0 w0 ok _) _ (ARet _ _ _) (entry _)
  (repeat' (first | (with_reducible first | intro hg | refine mv (by constructor) ?_) | ((with_reducible first | refine zR ?_ ?_ | refine zW mixed ?_ ?_); exact kr) | ((with_reducible apply zK); exact rfl; exact tf) | ((with_reducible apply zCD); exact rfl) | ((with_reducible apply zCN); exact rfl) | ((with_reducible apply zC); exact rfl) | ((with_reducible refine zX ?_ ?_); exact rfl) | ((with_reducible refine zE (And.intro ?_ ?_)); exact kr) | (with_reducible refine zE ?_) | ((with_reducible apply zP); exact dp) | ((with_reducible apply zN); exact dn) | ((with_reducible apply zA); exact da) | ((with_reducible apply zS); exact ds) | ((with_reducible apply zY); exact rfl; exact rfl; exact tf) | ((with_reducible apply zG); exact rfl; exact rfl; exact tf) | ((with_reducible apply zU); exact rfl; exact rfl) | ((with_reducible apply zD); exact rfl; exact rfl) | ((with_reducible apply zB); exact rfl; exact rfl)))
  refine awp_loopL (α := Nat) (fun k => [(1, .d (isl xs)), (2, .ptr 2 0), (5, .d (I (maxTo T A xs k))), (10, .d (I T.length)), (11, .d (I k))]) (fun _ => [(2, ⟨116, rulC T A⟩)]) (fun k => k ≤ T.length) (fun k => T.length - k) 0 (Nat.zero_le _) (And.intro rfl (And.intro rfl (And.intro rfl (And.intro rfl (And.intro rfl trivial))))) (And.intro rfl trivial) fun k hk => ?_
  by_cases hlt : k < T.length
  · have hb := maxTo_bnd h hs k hk
    have hb2 := devTo_bnd h hs hlt A.length (Nat.le_refl _)
    have hdv := deviation_A T A xs k h hs hlt
    have hsz := size_A (devP T A xs k) ⟨by unfold devP; omega, by unfold devP; omega⟩
    (repeat' (first | (with_reducible first | intro hg | refine mv (by constructor) ?_) | ((with_reducible first | refine zR ?_ ?_ | refine zW mixed ?_ ?_); exact kr) | ((with_reducible apply zK); exact rfl; exact tf) | ((with_reducible apply zCD); exact rfl) | ((with_reducible apply zCN); exact rfl) | ((with_reducible apply zC); exact rfl) | ((with_reducible refine zX ?_ ?_); exact rfl) | ((with_reducible refine zE (And.intro ?_ ?_)); exact kr) | (with_reducible refine zE ?_) | ((with_reducible apply zP); (first | exact dp | exact oc rfl (hdv) | exact oc rfl (hsz))) | ((with_reducible apply zN); exact dn) | ((with_reducible apply zA); exact da) | ((with_reducible apply zS); exact ds) | ((with_reducible apply zY); exact rfl; exact rfl; exact tf) | ((with_reducible apply zG); exact rfl; exact rfl; exact tf) | ((with_reducible apply zU); exact rfl; exact rfl) | ((with_reducible apply zD); exact rfl; exact rfl) | ((with_reducible apply zB); exact rfl; exact rfl)))
    exact ⟨k + 1, hlt, by omega, (And.intro rfl (And.intro rfl (And.intro rfl (And.intro rfl (And.intro rfl trivial))))), (And.intro rfl trivial)⟩
  · (repeat' (first | (with_reducible first | intro hg | refine mv (by constructor) ?_) | ((with_reducible first | refine zR ?_ ?_ | refine zW mixed ?_ ?_); exact kr) | ((with_reducible apply zK); exact rfl; exact tf) | ((with_reducible apply zCD); exact rfl) | ((with_reducible apply zCN); exact rfl) | ((with_reducible apply zC); exact rfl) | ((with_reducible refine zX ?_ ?_); exact rfl) | ((with_reducible refine zE (And.intro ?_ ?_)); exact kr) | (with_reducible refine zE ?_) | ((with_reducible apply zP); exact dp) | ((with_reducible apply zN); exact dn) | ((with_reducible apply zA); exact da) | ((with_reducible apply zS); exact ds) | ((with_reducible apply zY); exact rfl; exact rfl; exact tf) | ((with_reducible apply zG); exact rfl; exact rfl; exact tf) | ((with_reducible apply zU); exact rfl; exact rfl) | ((with_reducible apply zD); exact rfl; exact rfl) | ((with_reducible apply zB); exact rfl; exact rfl)))
    ((with_reducible first | apply q_retR | apply q_retN); exact rl)
    exact rt_int (by unfold maxP; rw [show k = T.length by omega])

end Go.Proofs.YtagpmpbmfjaiiaaGreatDoor
