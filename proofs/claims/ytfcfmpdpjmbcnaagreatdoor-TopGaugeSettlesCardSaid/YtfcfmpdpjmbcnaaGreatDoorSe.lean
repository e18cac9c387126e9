/- Loops, starts and coefficients: which are valid. -/
import Derived.Test.YtfcfmpdpjmbcnaaGreatDoorTc
set_option linter.unusedVariables false
set_option linter.unusedSimpArgs false
namespace Go.Proofs.YtfcfmpdpjmbcnaaGreatDoor
open Go.RowKit
set_option maxRecDepth 20000
set_option maxHeartbeats 8000000

abbrev llC (l : List Int) : List DV := [isl l]
abbrev llS (cs : List (List Int)) : List DV := (cs.map llC).flatten
abbrev llV (cs : List (List Int)) : DV := .slice cs.length (llS cs)
theorem llC_len (l : List Int) : (llC l).length = 1 := rfl
theorem llS_len (cs : List (List Int)) : (llS cs).length = cs.length := (flat_len llC 1 llC_len cs).trans (Nat.mul_one _)
abbrev loV (c : List Rg) (den : Int) : DV := .agg [rgV c, I den]
def rowE : List Rg → List Int → Int
  | [], _ => 0
  | _ :: _, [] => 22
  | x :: c, y :: r => bif inR y x.1 x.2 then rowE c r else 22
def cfE1 (c : List Rg) (r : List Int) : Int := bif decide ((r.length : Int) = (c.length : Int)) then rowE c r else 10
def cfE (c : List Rg) : List (List Int) → Int
  | [] => 0
  | r :: l => bif cfE1 c r == 0 then cfE c l else cfE1 c r
theorem rowE_drop {c : List Rg} {r : List Int} {i : Nat} (h : i < c.length) (h2 : i < r.length) : rowE (c.drop i) (r.drop i) = bif inR (nth r i) (c.getD i rg0).1 (c.getD i rg0).2 then rowE (c.drop (i + 1)) (r.drop (i + 1)) else 22 := by
  rw [drop_getD h2, List.drop_eq_getElem_cons h, List.getD_eq_getElem?_getD, List.getElem?_eq_getElem h]; rfl
theorem cfE_drop {c : List Rg} {cs : List (List Int)} {t : Nat} (h : t < cs.length) : cfE c (cs.drop t) = bif cfE1 c (cs.getD t []) == 0 then cfE c (cs.drop (t + 1)) else cfE1 c (cs.getD t []) := by
  rw [List.drop_eq_getElem_cons h, List.getD_eq_getElem?_getD, List.getElem?_eq_getElem h]; rfl
theorem beq0f {u : Int} (h : u ≠ 0) : (u == 0) = false := beq_eq_false_iff_ne.2 h
theorem rowE_ok : ∀ {c : List Rg} {r : List Int}, rowE c r = 0 → ∀ i, i < c.length → (c.getD i rg0).1 ≤ nth r i ∧ nth r i ≤ (c.getD i rg0).2
  | [], _, _, i, hi => by simp at hi
  | _ :: _, [], h, _, _ => by unfold rowE at h; cases h
  | x :: c, y :: r, h, i, hi => by
    unfold rowE at h
    cases hb : inR y x.1 x.2
    · rw [hb] at h; cases h
    · rw [hb] at h
      rcases i with _ | i
      · exact inR_true.1 hb
      · exact rowE_ok (c := c) (r := r) h i (by simpa using hi)
theorem cfE1_ok {c : List Rg} {r : List Int} (h : cfE1 c r = 0) : r.length = c.length ∧ ∀ i, i < c.length → (c.getD i rg0).1 ≤ nth r i ∧ nth r i ≤ (c.getD i rg0).2 := by
  unfold cfE1 at h
  by_cases hl : (r.length : Int) = (c.length : Int)
  · rw [decide_eq_true hl] at h
    exact ⟨by omega, rowE_ok h⟩
  · rw [decide_eq_false hl] at h; cases h
theorem cfE_ok {c : List Rg} : ∀ {cs : List (List Int)}, cfE c cs = 0 → ∀ t, t < cs.length → cfE1 c (cs.getD t []) = 0
  | [], _, t, ht => by simp at ht
  | r :: cs, h, t, ht => by
    unfold cfE at h
    by_cases h1 : cfE1 c r = 0
    · rw [h1] at h
      rcases t with _ | t
      · exact h1
      · exact cfE_ok (cs := cs) h t (by simpa using ht)
    · rw [beq0f h1] at h; exact absurd h h1
def srH (c : List Rg) (den : Int) (x : List Int) (cs : List (List Int)) : Int := fst0 [loE c den, unl (decide ((x.length : Int) = (c.length : Int))) 10, unl (!x.any fun n => !inR n (-100) 100) 2, unl (decide ((cs.length : Int) ≤ 8)) 8]
def srE (c : List Rg) (den : Int) (x : List Int) (cs : List (List Int)) : Int := bif srH c den x cs == 0 then cfE c cs else srH c den x cs
theorem str1_A (n : Int) : AC Tryz.prog 115 ([I n] ++ []) (B (!inR n (-100) 100)) := by
  refine ac_body Tryz.func115 rfl (by kernel_rfl) fun w0 ok => ?_; show AWp _ (ctx0 w0 ok _) _ (ARet _ _ _) (entry _)
  (repeat' (first | (with_reducible first | intro hg | refine mv (by constructor) ?_) | ((with_reducible first | refine zR ?_ ?_ | refine zW mixed ?_ ?_); exact kr) | ((with_reducible apply zK); exact rfl; exact tf) | ((with_reducible apply zCD); exact rfl) | ((with_reducible apply zCN); exact rfl) | ((with_reducible apply zC); exact rfl) | ((with_reducible refine zX ?_ ?_); exact rfl) | ((with_reducible refine zE (And.intro ?_ ?_)); exact kr) | (with_reducible refine zE ?_) | ((with_reducible apply zP); (first | exact dp | exact oc rfl (isSized_A _ _ ⟨by decide, by decide⟩))) | ((with_reducible apply zN); exact dn) | ((with_reducible apply zA); exact da) | ((with_reducible apply zS); exact ds) | ((with_reducible apply zY); exact rfl; exact rfl; exact tf) | ((with_reducible apply zG); exact rfl; exact rfl; exact tf) | ((with_reducible apply zU); exact rfl; exact rfl) | ((with_reducible apply zD); exact rfl; exact rfl) | ((with_reducible apply zB); exact rfl; exact rfl)))
  ((with_reducible first | apply q_retR | apply q_retN); exact rl)
  rfl
theorem strange_A (x : List Int) (hx : x.length ≤ 140737488355328) : AC Tryz.prog 67 [isl x, fnV 115] (B (x.any fun n => !inR n (-100) 100)) :=
  containsFunc_A 115 (EntI.eq (P := Tryz.prog) (f := 115)) .val (fun n => !inR n (-100) 100) x hx (fun x _ => str1_A x)
theorem startErr_A (c : List Rg) (den : Int) (x : List Int) (cs : List (List Int)) (h1 : c.length ≤ 140737488355328) (h2 : x.length ≤ 140737488355328) (h3 : cs.length ≤ 140737488355328) (h4 : ∀ r ∈ cs, r.length ≤ 140737488355328) : AC Tryz.prog 69 [loV c den, isl x, llV cs] (I (srE c den x cs)) := by
  have w1 := checkLoop_A c den h1
  have w2 := strange_A x h2
  have hf := first4_A (loE c den) (unl (decide ((x.length : Int) = (c.length : Int))) 10) (unl (!x.any fun n => !inR n (-100) 100) 2) (unl (decide ((cs.length : Int) ≤ 8)) 8)
  have e0 : srH c den x cs = fst0 [loE c den, unl (decide ((x.length : Int) = (c.length : Int))) 10, unl (!x.any fun n => !inR n (-100) 100) 2, unl (decide ((cs.length : Int) ≤ 8)) 8] := rfl
  rw [← e0] at hf
  have hl8 : srH c den x cs = 0 → cs.length ≤ 8 := fun h => by
    rw [e0] at h
    have h := (fst0_cons (fst0_cons (fst0_cons h).2).2).2
    rw [fst0_one] at h
    have := of_decide_eq_true (unl_ok (by decide) h)
    omega
  obtain ⟨R, hR⟩ : ∃ R, R = srE c den x cs := ⟨_, rfl⟩
  have hR0 : R = bif srH c den x cs == 0 then cfE c (cs.drop 0) else srH c den x cs := hR
  rw [← hR]
  clear hR e0
  generalize srH c den x cs = e0 at *
  refine ac_body Tryz.func69 rfl (by kernel_rfl) fun w0 ok => ?_; show AWp _ (ctx0 w0 ok _) _ (ARet _ _ _) (entry _)
  (repeat' (first | (with_reducible first | intro hg | refine mv (by constructor) ?_) | ((with_reducible first | refine zR ?_ ?_ | refine zW mixed ?_ ?_); exact kr) | ((with_reducible apply zK); exact rfl; exact tf) | ((with_reducible apply zCD); exact rfl) | ((with_reducible apply zCN); exact rfl) | ((with_reducible apply zC); exact rfl) | ((with_reducible refine zX ?_ ?_); exact rfl) | ((with_reducible refine zE (And.intro ?_ ?_)); exact kr) | (with_reducible refine zE ?_) | ((with_reducible apply zP); (first | exact dp | exact oc rfl (w1) | exact oc rfl (w2) | exact oc rfl (unless_A _ _) | exact oc rfl (hf))) | ((with_reducible apply zN); exact dn) | ((with_reducible apply zA); exact da) | ((with_reducible apply zS); exact ds) | ((with_reducible apply zY); exact rfl; exact rfl; exact tf) | ((with_reducible apply zG); exact rfl; exact rfl; exact tf) | ((with_reducible apply zU); exact rfl; exact rfl) | ((with_reducible apply zD); exact rfl; exact rfl) | ((with_reducible apply zB); exact rfl; exact rfl)))
  refine awp_loopL2 (fun (t : Nat) (e : Int) => [(1, .d (isl x)), (2, .d (llV cs)), (3, .ptr 3 0), (8, .d (I e)), (9, .d (I t))]) (fun _ _ => [(3, ⟨24, [rgV c, I den]⟩)]) (fun t e => t ≤ cs.length ∧ R = bif e == 0 then cfE c (cs.drop t) else e) (fun t _ => cs.length - t) 0 e0 ⟨Nat.zero_le _, hR0⟩ (And.intro rfl (And.intro rfl (And.intro rfl (And.intro rfl (And.intro rfl trivial))))) (And.intro rfl trivial) fun t e ⟨ht, hE⟩ => ?_
  clear w1 w2 hf
  by_cases he : e = 0
  rotate_left
  · rw [beq0f he] at hE
    have hE : R = e := hE
    rw [hE]
    by_cases htl : t < cs.length
    · exact zF
    · exact zF
  subst he
  have hE : R = cfE c (cs.drop t) := hE
  by_cases htl : t < cs.length
  rotate_left
  · rw [List.drop_of_length_le (by omega)] at hE
    have hE : R = 0 := hE
    rw [hE]
    exact zF
  rw [cfE_drop htl] at hE
  have hrl : (cs.getD t []).length ≤ 140737488355328 := h4 _ (by rw [List.getD_eq_getElem?_getD, List.getElem?_eq_getElem htl]; exact List.getElem_mem htl)
  obtain ⟨r, hr⟩ : ∃ r, r = cs.getD t [] := ⟨_, rfl⟩
  rw [← hr] at hE hrl
  (repeat' (first | (with_reducible first | intro hg | refine mv (by constructor) ?_) | ((with_reducible first | refine zR ?_ ?_ | refine zW mixed ?_ ?_); exact kr) | ((with_reducible apply zK); exact rfl; exact tf) | ((with_reducible apply zCD); exact rfl) | ((with_reducible apply zCN); exact rfl) | ((with_reducible apply zC); exact rfl) | ((with_reducible refine zX ?_ ?_); exact rfl) | ((with_reducible refine zE (And.intro ?_ ?_)); exact kr) | (with_reducible refine zE ?_) | ((with_reducible apply zP); (first | exact o_indexF [] llC_len (by decide) rfl rfl (by omega) rfl | exact dp | exact oc rfl (unless_A _ _))) | ((with_reducible apply zN); exact dn) | ((with_reducible apply zA); exact da) | ((with_reducible apply zS); exact ds) | ((with_reducible apply zY); exact rfl; exact rfl; exact tf) | ((with_reducible apply zG); exact rfl; exact rfl; exact tf) | ((with_reducible apply zU); exact rfl; exact rfl) | ((with_reducible apply zD); exact rfl; exact rfl) | ((with_reducible apply zB); exact rfl; exact rfl)))
  refine awp_loopL2 (fun (i : Nat) (e : Int) => [(1, .d (isl x)), (2, .d (llV cs)), (3, .ptr 3 0), (8, .d (I e)), (9, .d (I t)), (10, .d (I i))]) (fun _ _ => [(3, ⟨24, [rgV c, I den]⟩)]) (fun i e => i ≤ c.length ∧ cfE1 c r = (bif e == 0 then rowE (c.drop i) (r.drop i) else e) ∧ (e = 0 → r.length = c.length)) (fun i _ => c.length - i) 0 (unl (decide ((r.length : Int) = (c.length : Int))) 10) ⟨Nat.zero_le _, ?_, ?_⟩ (And.intro rfl (And.intro rfl (And.intro rfl (And.intro (by rw [hr]; rfl) (And.intro (rfl) (And.intro (rfl) trivial)))))) (And.intro rfl trivial) fun i e ⟨hi, hE1, hlen⟩ => ?_
  · unfold cfE1
    cases decide ((r.length : Int) = (c.length : Int)) <;> rfl
  · intro h
    have := of_decide_eq_true (unl_ok (by decide) h)
    omega
  by_cases he : e = 0
  rotate_left
  · rw [beq0f he] at hE1
    have hE1 : cfE1 c r = e := hE1
    rw [hE1] at hE
    by_cases hil : i < c.length
    · (repeat' (first | (with_reducible first | intro hg | refine mv (by constructor) ?_) | ((with_reducible first | refine zR ?_ ?_ | refine zW mixed ?_ ?_); exact kr) | ((with_reducible apply zK); exact rfl; exact tf) | ((with_reducible apply zCD); exact rfl) | ((with_reducible apply zCN); exact rfl) | ((with_reducible apply zC); exact rfl) | ((with_reducible refine zX ?_ ?_); exact rfl) | ((with_reducible refine zE (And.intro ?_ ?_)); exact kr) | (with_reducible refine zE ?_) | ((with_reducible apply zP); exact dp) | ((with_reducible apply zN); exact dn) | ((with_reducible apply zA); exact da) | ((with_reducible apply zS); exact ds) | ((with_reducible apply zY); exact rfl; exact rfl; exact tf) | ((with_reducible apply zG); exact rfl; exact rfl; exact tf) | ((with_reducible apply zU); exact rfl; exact rfl) | ((with_reducible apply zD); exact rfl; exact rfl) | ((with_reducible apply zB); exact rfl; exact rfl)))
      exact ⟨t + 1, e, ⟨htl, hE⟩, by omega, (And.intro rfl (And.intro rfl (And.intro rfl (And.intro rfl (And.intro rfl trivial))))), (And.intro rfl trivial)⟩
    · (repeat' (first | (with_reducible first | intro hg | refine mv (by constructor) ?_) | ((with_reducible first | refine zR ?_ ?_ | refine zW mixed ?_ ?_); exact kr) | ((with_reducible apply zK); exact rfl; exact tf) | ((with_reducible apply zCD); exact rfl) | ((with_reducible apply zCN); exact rfl) | ((with_reducible apply zC); exact rfl) | ((with_reducible refine zX ?_ ?_); exact rfl) | ((with_reducible refine zE (And.intro ?_ ?_)); exact kr) | (with_reducible refine zE ?_) | ((with_reducible apply zP); exact dp) | ((with_reducible apply zN); exact dn) | ((with_reducible apply zA); exact da) | ((with_reducible apply zS); exact ds) | ((with_reducible apply zY); exact rfl; exact rfl; exact tf) | ((with_reducible apply zG); exact rfl; exact rfl; exact tf) | ((with_reducible apply zU); exact rfl; exact rfl) | ((with_reducible apply zD); exact rfl; exact rfl) | ((with_reducible apply zB); exact rfl; exact rfl)))
      exact ⟨t + 1, e, ⟨htl, hE⟩, by omega, (And.intro rfl (And.intro rfl (And.intro rfl (And.intro rfl (And.intro rfl trivial))))), (And.intro rfl trivial)⟩
  subst he
  have hlen := hlen rfl
  have hE1 : cfE1 c r = rowE (c.drop i) (r.drop i) := hE1
  by_cases hil : i < c.length
  rotate_left
  · rw [List.drop_of_length_le (by omega)] at hE1
    have hE1 : cfE1 c r = 0 := hE1
    rw [hE1] at hE
    (repeat' (first | (with_reducible first | intro hg | refine mv (by constructor) ?_) | ((with_reducible first | refine zR ?_ ?_ | refine zW mixed ?_ ?_); exact kr) | ((with_reducible apply zK); exact rfl; exact tf) | ((with_reducible apply zCD); exact rfl) | ((with_reducible apply zCN); exact rfl) | ((with_reducible apply zC); exact rfl) | ((with_reducible refine zX ?_ ?_); exact rfl) | ((with_reducible refine zE (And.intro ?_ ?_)); exact kr) | (with_reducible refine zE ?_) | ((with_reducible apply zP); exact dp) | ((with_reducible apply zN); exact dn) | ((with_reducible apply zA); exact da) | ((with_reducible apply zS); exact ds) | ((with_reducible apply zY); exact rfl; exact rfl; exact tf) | ((with_reducible apply zG); exact rfl; exact rfl; exact tf) | ((with_reducible apply zU); exact rfl; exact rfl) | ((with_reducible apply zD); exact rfl; exact rfl) | ((with_reducible apply zB); exact rfl; exact rfl)))
    exact ⟨t + 1, 0, ⟨htl, hE⟩, by omega, (And.intro rfl (And.intro rfl (And.intro rfl (And.intro rfl (And.intro rfl trivial))))), (And.intro rfl trivial)⟩
  rw [rowE_drop hil (by omega)] at hE1
  have w3 := isIn_A (nth r i) (c.getD i rg0).1 (c.getD i rg0).2
  have w4 := unless_A (inR (nth r i) (c.getD i rg0).1 (c.getD i rg0).2) 22
  have hcl : r.length = (cs.getD t []).length := by rw [hr]
  have hnr : nth r i = nth (cs.getD t []) i := by rw [hr]
  rw [hnr] at w3 w4
  rw [hnr] at hE1
  (repeat' (first | (with_reducible first | intro hg | refine mv (by constructor) ?_) | ((with_reducible first | refine zR ?_ ?_ | refine zW mixed ?_ ?_); exact kr) | ((with_reducible apply zK); exact rfl; exact tf) | ((with_reducible apply zCD); exact rfl) | ((with_reducible apply zCN); exact rfl) | ((with_reducible apply zC); exact rfl) | ((with_reducible refine zX ?_ ?_); exact rfl) | ((with_reducible refine zE (And.intro ?_ ?_)); exact kr) | (with_reducible refine zE ?_) | ((with_reducible apply zP); (first | exact o_indexF [] llC_len (by decide) rfl rfl (by omega) rfl | exact o_indexF rg0 frC_len (by decide) rfl rfl (by omega) rfl | exact o_indexI (xs := cs.getD t []) (j := i) rfl rfl (by omega) rfl | exact dp | exact oc rfl (w3) | exact oc rfl (w4))) | ((with_reducible apply zN); exact dn) | ((with_reducible apply zA); exact da) | ((with_reducible apply zS); exact ds) | ((with_reducible apply zY); exact rfl; exact rfl; exact tf) | ((with_reducible apply zG); exact rfl; exact rfl; exact tf) | ((with_reducible apply zU); exact rfl; exact rfl) | ((with_reducible apply zD); exact rfl; exact rfl) | ((with_reducible apply zB); exact rfl; exact rfl)))
  refine ⟨i + 1, unl (inR (nth (cs.getD t []) i) (c.getD i rg0).1 (c.getD i rg0).2) 22, ⟨hil, ?_, fun _ => hlen⟩, by omega, (And.intro rfl (And.intro rfl (And.intro rfl (And.intro rfl (And.intro rfl (And.intro rfl trivial)))))), (And.intro rfl trivial)⟩
  rw [hE1]
  cases inR (nth (cs.getD t []) i) (c.getD i rg0).1 (c.getD i rg0).2 <;> rfl

end Go.Proofs.YtfcfmpdpjmbcnaaGreatDoor
