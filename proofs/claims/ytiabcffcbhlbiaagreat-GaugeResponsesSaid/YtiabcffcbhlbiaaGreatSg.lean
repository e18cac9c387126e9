/- The reference's errors of loops, proofs, starts and coefficients; copies. -/
import Derived.Test.YtiabcffcbhlbiaaGreatSe
import Derived.Test.YtiabcffcbhlbiaaGreatTd
set_option linter.unusedVariables false
set_option linter.unusedSimpArgs false
namespace Go.Proofs.YtiabcffcbhlbiaaGreat
open Go.RowKit
set_option maxRecDepth 20000
set_option maxHeartbeats 8000000

theorem loE_big {c : List Rg} {den : Int} (h : 3 < c.length) : loE c den = 8 := by
  have : loH c = 8 := by
    unfold loH
    rw [decide_eq_true (by omega), decide_eq_false (by omega)]; rfl
  unfold loE
  rw [this]; rfl
theorem loE_none {den : Int} : loE [] den = 10 := rfl
theorem loE_mid {c : List Rg} {den : Int} (h1 : 0 < c.length) (h3 : c.length ≤ 3) : loE c den = bif rgE c == 0 then unl (inR den 1 10) 2 else rgE c := by
  have : loH c = 0 := by
    unfold loH
    rw [decide_eq_true (by omega), decide_eq_true (by omega)]; rfl
  unfold loE
  rw [this]; rfl
theorem rgE1_eq (r : Rg) : rgE1 r = bif inR r.1 (-10) 10 && inR r.2 (-10) 10 then unl (decide (r.1 ≤ r.2)) 9 else 2 := by
  unfold rgE1
  cases inR r.1 (-10) 10 && inR r.2 (-10) 10
  · rfl
  · exact (fst0_zero _).trans (fst0_one _)
theorem qloopErr_A (c : List Rg) (den : Int) (hm : c.length ≤ 140737488355328) : AC Tryz.prog 17 [loV c den] (I (loE c den)) := by
  by_cases h0 : c.length = 0
  · obtain rfl : c = [] := List.length_eq_zero_iff.1 h0
    rw [loE_none]
    refine ac_body Tryz.func17 rfl (by kernel_rfl) fun w0 ok => ?_; show AWp _ (ctx0 w0 ok _) _ (ARet _ _ _) (entry _)
    exact zF
  by_cases h3 : c.length ≤ 3
  rotate_left
  · rw [loE_big (by omega)]
    refine ac_body Tryz.func17 rfl (by kernel_rfl) fun w0 ok => ?_; show AWp _ (ctx0 w0 ok _) _ (ARet _ _ _) (entry _)
    exact zF
  rw [loE_mid (by omega) h3]
  refine ac_body Tryz.func17 rfl (by kernel_rfl) fun w0 ok => ?_; show AWp _ (ctx0 w0 ok _) _ (ARet _ _ _) (entry _)
  (repeat' (first | (with_reducible first | intro hg | refine mv (by constructor) ?_) | ((with_reducible first | refine zR ?_ ?_ | refine zW mixed ?_ ?_); exact kr) | ((with_reducible apply zK); exact rfl; exact tf) | ((with_reducible apply zCD); exact rfl) | ((with_reducible apply zCN); exact rfl) | ((with_reducible apply zC); exact rfl) | ((with_reducible refine zX ?_ ?_); exact rfl) | ((with_reducible refine zE (And.intro ?_ ?_)); exact kr) | (with_reducible refine zE ?_) | ((with_reducible apply zP); exact dp) | ((with_reducible apply zN); exact dn) | ((with_reducible apply zA); exact da) | ((with_reducible apply zS); exact ds) | ((with_reducible apply zY); exact rfl; exact rfl; exact tf) | ((with_reducible apply zG); exact rfl; exact rfl; exact tf) | ((with_reducible apply zU); exact rfl; exact rfl) | ((with_reducible apply zD); exact rfl; exact rfl) | ((with_reducible apply zB); exact rfl; exact rfl)))
  refine awp_loopL (α := Nat) (fun k => [(1, .ptr 1 0), (3, .d (I k))]) (fun _ => [(1, ⟨24, [rgV c, I den]⟩)]) (fun k => k ≤ c.length ∧ rgE c = rgE (c.drop k)) (fun k => c.length - k) 0 ⟨Nat.zero_le _, rfl⟩ (And.intro rfl (And.intro rfl trivial)) (And.intro rfl trivial) fun k ⟨hk, hE⟩ => ?_
  by_cases hlt : k < c.length
  · rw [rgE_drop hlt, rgE1_eq] at hE
    have w1 := bwithin_A (c.getD k rg0).1 (-10) 10
    have w2 := bwithin_A (c.getD k rg0).2 (-10) 10
    have w3 := bwithin_A den 1 10
    cases hb1 : inR (c.getD k rg0).1 (-10) 10
    · rw [hb1] at w1 hE
      have hE : rgE c = 2 := hE
      rw [hE]
      (repeat' (first | (with_reducible first | intro hg | refine mv (by constructor) ?_) | ((with_reducible first | refine zR ?_ ?_ | refine zW mixed ?_ ?_); exact kr) | ((with_reducible apply zK); exact rfl; exact tf) | ((with_reducible apply zCD); exact rfl) | ((with_reducible apply zCN); exact rfl) | ((with_reducible apply zC); exact rfl) | ((with_reducible refine zX ?_ ?_); exact rfl) | ((with_reducible refine zE (And.intro ?_ ?_)); exact kr) | (with_reducible refine zE ?_) | ((with_reducible apply zP); (first | exact o_indexF rg0 frC_len (by decide) rfl rfl (by omega) rfl | exact dp | exact oc rfl (w1) | exact oc rfl (w2))) | ((with_reducible apply zN); exact dn) | ((with_reducible apply zA); exact da) | ((with_reducible apply zS); exact ds) | ((with_reducible apply zY); exact rfl; exact rfl; exact tf) | ((with_reducible apply zG); exact rfl; exact rfl; exact tf) | ((with_reducible apply zU); exact rfl; exact rfl) | ((with_reducible apply zD); exact rfl; exact rfl) | ((with_reducible apply zB); exact rfl; exact rfl)))
      ((with_reducible first | apply q_retR | apply q_retN); exact rl)
      rfl
    cases hb2 : inR (c.getD k rg0).2 (-10) 10
    · rw [hb1] at w1 hE
      rw [hb2] at w2 hE
      have hE : rgE c = 2 := hE
      rw [hE]
      (repeat' (first | (with_reducible first | intro hg | refine mv (by constructor) ?_) | ((with_reducible first | refine zR ?_ ?_ | refine zW mixed ?_ ?_); exact kr) | ((with_reducible apply zK); exact rfl; exact tf) | ((with_reducible apply zCD); exact rfl) | ((with_reducible apply zCN); exact rfl) | ((with_reducible apply zC); exact rfl) | ((with_reducible refine zX ?_ ?_); exact rfl) | ((with_reducible refine zE (And.intro ?_ ?_)); exact kr) | (with_reducible refine zE ?_) | ((with_reducible apply zP); (first | exact o_indexF rg0 frC_len (by decide) rfl rfl (by omega) rfl | exact dp | exact oc rfl (w1) | exact oc rfl (w2))) | ((with_reducible apply zN); exact dn) | ((with_reducible apply zA); exact da) | ((with_reducible apply zS); exact ds) | ((with_reducible apply zY); exact rfl; exact rfl; exact tf) | ((with_reducible apply zG); exact rfl; exact rfl; exact tf) | ((with_reducible apply zU); exact rfl; exact rfl) | ((with_reducible apply zD); exact rfl; exact rfl) | ((with_reducible apply zB); exact rfl; exact rfl)))
      ((with_reducible first | apply q_retR | apply q_retN); exact rl)
      rfl
    rw [hb1] at w1 hE
    rw [hb2] at w2 hE
    by_cases hle : (c.getD k rg0).1 ≤ (c.getD k rg0).2
    · rw [decide_eq_true hle] at hE
      have hE : rgE c = rgE (c.drop (k + 1)) := hE
      (repeat' (first | (with_reducible first | intro hg | refine mv (by constructor) ?_) | ((with_reducible first | refine zR ?_ ?_ | refine zW mixed ?_ ?_); exact kr) | ((with_reducible apply zK); exact rfl; exact tf) | ((with_reducible apply zCD); exact rfl) | ((with_reducible apply zCN); exact rfl) | ((with_reducible apply zC); exact rfl) | ((with_reducible refine zX ?_ ?_); exact rfl) | ((with_reducible refine zE (And.intro ?_ ?_)); exact kr) | (with_reducible refine zE ?_) | ((with_reducible apply zP); (first | exact o_indexF rg0 frC_len (by decide) rfl rfl (by omega) rfl | exact dp | exact oc rfl (w1) | exact oc rfl (w2))) | ((with_reducible apply zN); exact dn) | ((with_reducible apply zA); exact da) | ((with_reducible apply zS); exact ds) | ((with_reducible apply zY); exact rfl; exact rfl; exact tf) | ((with_reducible apply zG); exact rfl; exact rfl; exact tf) | ((with_reducible apply zU); exact rfl; exact rfl) | ((with_reducible apply zD); exact rfl; exact rfl) | ((with_reducible apply zB); exact rfl; exact rfl)))
      exact ⟨k + 1, ⟨hlt, hE⟩, by omega, (And.intro rfl (And.intro rfl trivial)), (And.intro rfl trivial)⟩
    · rw [decide_eq_false hle] at hE
      have hE : rgE c = 9 := hE
      rw [hE]
      (repeat' (first | (with_reducible first | intro hg | refine mv (by constructor) ?_) | ((with_reducible first | refine zR ?_ ?_ | refine zW mixed ?_ ?_); exact kr) | ((with_reducible apply zK); exact rfl; exact tf) | ((with_reducible apply zCD); exact rfl) | ((with_reducible apply zCN); exact rfl) | ((with_reducible apply zC); exact rfl) | ((with_reducible refine zX ?_ ?_); exact rfl) | ((with_reducible refine zE (And.intro ?_ ?_)); exact kr) | (with_reducible refine zE ?_) | ((with_reducible apply zP); (first | exact o_indexF rg0 frC_len (by decide) rfl rfl (by omega) rfl | exact dp | exact oc rfl (w1) | exact oc rfl (w2))) | ((with_reducible apply zN); exact dn) | ((with_reducible apply zA); exact da) | ((with_reducible apply zS); exact ds) | ((with_reducible apply zY); exact rfl; exact rfl; exact tf) | ((with_reducible apply zG); exact rfl; exact rfl; exact tf) | ((with_reducible apply zU); exact rfl; exact rfl) | ((with_reducible apply zD); exact rfl; exact rfl) | ((with_reducible apply zB); exact rfl; exact rfl)))
      ((with_reducible first | apply q_retR | apply q_retN); exact rl)
      rfl
  · rw [List.drop_of_length_le (by omega)] at hE
    have hE : rgE c = 0 := hE
    have w3 := bwithin_A den 1 10
    rw [hE]
    show AWp _ _ _ (ASeq _ (ABlock _ (ASeq _ (ARet _ _ (I (unl (inR den 1 10) 2)))))) _
    cases hb : inR den 1 10
    all_goals
      rw [hb] at w3
      exact zF
/-- The first of the numbers for which p does not hold. -/
theorem any_drop {xs : List Int} {p : Int → Bool} {k : Nat} (h : k < xs.length) : (xs.drop k).any p = (p (nth xs k) || (xs.drop (k + 1)).any p) := by
  rw [drop_getD h]; rfl
def sxE (c : List Rg) (x : List Int) : Int := fst0 [unl (decide ((x.length : Int) = (c.length : Int))) 10, unl (!x.any fun n => !inR n (-100) 100) 2]
abbrev prI (s : Int) (w : List Int) : List DV := [I s, isl w]
def pfE (c : List Rg) (s : Int) (w : List Int) : Int := fst0 [unl (inR s 1 6) 2, unl (decide ((w.length : Int) = (c.length : Int))) 10, unl (!w.any fun n => !inR n 1 10) 2]
theorem qproofErr_A (c : List Rg) (den s : Int) (w : List Int) (hm : c.length ≤ 140737488355328) (hw : w.length ≤ 140737488355328) : AC Tryz.prog 32 [loV c den, .agg (prI s w)] (I (pfE c s w)) := by
  unfold pfE
  have ws := bwithin_A s 1 6
  cases hs : inR s 1 6
  · rw [hs] at ws
    refine ac_body Tryz.func32 rfl (by kernel_rfl) fun w0 ok => ?_; show AWp _ (ctx0 w0 ok _) _ (ARet _ _ _) (entry _)
    exact zF
  rw [hs] at ws
  by_cases hl : (w.length : Int) = (c.length : Int)
  rotate_left
  · rw [decide_eq_false hl]
    refine ac_body Tryz.func32 rfl (by kernel_rfl) fun w0 ok => ?_; show AWp _ (ctx0 w0 ok _) _ (ARet _ _ _) (entry _)
    exact zF
  have e : fst0 [unl true 2, unl (decide ((w.length : Int) = (c.length : Int))) 10, unl (!w.any fun n => !inR n 1 10) 2] = unl (!w.any fun n => !inR n 1 10) 2 := by rw [decide_eq_true hl]; exact (fst0_zero _).trans ((fst0_zero _).trans (fst0_one _))
  rw [e]
  refine ac_body Tryz.func32 rfl (by kernel_rfl) fun w0 ok => ?_; show AWp _ (ctx0 w0 ok _) _ (ARet _ _ _) (entry _)
  (repeat' (first | (with_reducible first | intro hg | refine mv (by constructor) ?_) | ((with_reducible first | refine zR ?_ ?_ | refine zW mixed ?_ ?_); exact kr) | ((with_reducible apply zK); exact rfl; exact tf) | ((with_reducible apply zCD); exact rfl) | ((with_reducible apply zCN); exact rfl) | ((with_reducible apply zC); exact rfl) | ((with_reducible refine zX ?_ ?_); exact rfl) | ((with_reducible refine zE (And.intro ?_ ?_)); exact kr) | (with_reducible refine zE ?_) | ((with_reducible apply zP); (first | exact dp | exact oc rfl (ws))) | ((with_reducible apply zN); exact dn) | ((with_reducible apply zA); exact da) | ((with_reducible apply zS); exact ds) | ((with_reducible apply zY); exact rfl; exact rfl; exact tf) | ((with_reducible apply zG); exact rfl; exact rfl; exact tf) | ((with_reducible apply zU); exact rfl; exact rfl) | ((with_reducible apply zD); exact rfl; exact rfl) | ((with_reducible apply zB); exact rfl; exact rfl)))
  refine awp_loopL (α := Nat) (fun k => [(3, .ptr 3 0), (5, .d (I k))]) (fun _ => [(3, ⟨54, prI s w⟩)]) (fun k => k ≤ w.length ∧ (w.any fun n => !inR n 1 10) = ((w.drop k).any fun n => !inR n 1 10)) (fun k => w.length - k) 0 ⟨Nat.zero_le _, rfl⟩ (And.intro rfl (And.intro rfl trivial)) (And.intro rfl trivial) fun k ⟨hk, hE⟩ => ?_
  by_cases hlt : k < w.length
  · rw [any_drop hlt] at hE
    have w1 := bwithin_A (nth w k) 1 10
    cases hb : inR (nth w k) 1 10
    · rw [hb] at w1 hE
      have hE : (w.any fun n => !inR n 1 10) = true := hE
      rw [hE]
      exact zF
    · rw [hb] at w1 hE
      (repeat' (first | (with_reducible first | intro hg | refine mv (by constructor) ?_) | ((with_reducible first | refine zR ?_ ?_ | refine zW mixed ?_ ?_); exact kr) | ((with_reducible apply zK); exact rfl; exact tf) | ((with_reducible apply zCD); exact rfl) | ((with_reducible apply zCN); exact rfl) | ((with_reducible apply zC); exact rfl) | ((with_reducible refine zX ?_ ?_); exact rfl) | ((with_reducible refine zE (And.intro ?_ ?_)); exact kr) | (with_reducible refine zE ?_) | ((with_reducible apply zP); (first | exact dp | exact oc rfl (w1))) | ((with_reducible apply zN); exact dn) | ((with_reducible apply zA); exact da) | ((with_reducible apply zS); exact ds) | ((with_reducible apply zY); exact rfl; exact rfl; exact tf) | ((with_reducible apply zG); exact rfl; exact rfl; exact tf) | ((with_reducible apply zU); exact rfl; exact rfl) | ((with_reducible apply zD); exact rfl; exact rfl) | ((with_reducible apply zB); exact rfl; exact rfl)))
      exact ⟨k + 1, ⟨hlt, hE⟩, by omega, (And.intro rfl (And.intro rfl trivial)), (And.intro rfl trivial)⟩
  · rw [List.drop_of_length_le (by omega)] at hE
    have hE : (w.any fun n => !inR n 1 10) = false := hE
    rw [hE]
    exact zF
def exB (c : List Rg) : Bool := c.all fun r => decide (r.1 = r.2)
theorem exB_drop {c : List Rg} {k : Nat} (h : k < c.length) : exB (c.drop k) = (decide ((c.getD k rg0).1 = (c.getD k rg0).2) && exB (c.drop (k + 1))) := by
  rw [List.drop_eq_getElem_cons h, List.getD_eq_getElem?_getD, List.getElem?_eq_getElem h]; rfl
theorem qisExact_A (c : List Rg) (den : Int) (hm : c.length ≤ 140737488355328) : AC Tryz.prog 37 [loV c den] (B (exB c)) := by
  refine ac_body Tryz.func37 rfl (by kernel_rfl) fun w0 ok => ?_; show AWp _ (ctx0 w0 ok _) _ (ARet _ _ _) (entry _)
  (repeat' (first | (with_reducible first | intro hg | refine mv (by constructor) ?_) | ((with_reducible first | refine zR ?_ ?_ | refine zW mixed ?_ ?_); exact kr) | ((with_reducible apply zK); exact rfl; exact tf) | ((with_reducible apply zCD); exact rfl) | ((with_reducible apply zCN); exact rfl) | ((with_reducible apply zC); exact rfl) | ((with_reducible refine zX ?_ ?_); exact rfl) | ((with_reducible refine zE (And.intro ?_ ?_)); exact kr) | (with_reducible refine zE ?_) | ((with_reducible apply zP); exact dp) | ((with_reducible apply zN); exact dn) | ((with_reducible apply zA); exact da) | ((with_reducible apply zS); exact ds) | ((with_reducible apply zY); exact rfl; exact rfl; exact tf) | ((with_reducible apply zG); exact rfl; exact rfl; exact tf) | ((with_reducible apply zU); exact rfl; exact rfl) | ((with_reducible apply zD); exact rfl; exact rfl) | ((with_reducible apply zB); exact rfl; exact rfl)))
  refine awp_loopL (α := Nat) (fun k => [(1, .ptr 1 0), (3, .d (I k))]) (fun _ => [(1, ⟨24, [rgV c, I den]⟩)]) (fun k => k ≤ c.length ∧ exB c = exB (c.drop k)) (fun k => c.length - k) 0 ⟨Nat.zero_le _, rfl⟩ (And.intro rfl (And.intro rfl trivial)) (And.intro rfl trivial) fun k ⟨hk, hE⟩ => ?_
  by_cases hlt : k < c.length
  · rw [exB_drop hlt] at hE
    by_cases hq : (c.getD k rg0).1 = (c.getD k rg0).2
    · rw [decide_eq_true hq] at hE
      (repeat' (first | (with_reducible first | intro hg | refine mv (by constructor) ?_) | ((with_reducible first | refine zR ?_ ?_ | refine zW mixed ?_ ?_); exact kr) | ((with_reducible apply zK); exact rfl; exact tf) | ((with_reducible apply zCD); exact rfl) | ((with_reducible apply zCN); exact rfl) | ((with_reducible apply zC); exact rfl) | ((with_reducible refine zX ?_ ?_); exact rfl) | ((with_reducible refine zE (And.intro ?_ ?_)); exact kr) | (with_reducible refine zE ?_) | ((with_reducible apply zP); (first | exact o_indexF rg0 frC_len (by decide) rfl rfl (by omega) rfl | exact dp)) | ((with_reducible apply zN); exact dn) | ((with_reducible apply zA); exact da) | ((with_reducible apply zS); exact ds) | ((with_reducible apply zY); exact rfl; exact rfl; exact tf) | ((with_reducible apply zG); exact rfl; exact rfl; exact tf) | ((with_reducible apply zU); exact rfl; exact rfl) | ((with_reducible apply zD); exact rfl; exact rfl) | ((with_reducible apply zB); exact rfl; exact rfl)))
      exact ⟨k + 1, ⟨hlt, hE⟩, by omega, (And.intro rfl (And.intro rfl trivial)), (And.intro rfl trivial)⟩
    · rw [decide_eq_false hq] at hE
      have hE : exB c = false := hE
      rw [hE]
      (repeat' (first | (with_reducible first | intro hg | refine mv (by constructor) ?_) | ((with_reducible first | refine zR ?_ ?_ | refine zW mixed ?_ ?_); exact kr) | ((with_reducible apply zK); exact rfl; exact tf) | ((with_reducible apply zCD); exact rfl) | ((with_reducible apply zCN); exact rfl) | ((with_reducible apply zC); exact rfl) | ((with_reducible refine zX ?_ ?_); exact rfl) | ((with_reducible refine zE (And.intro ?_ ?_)); exact kr) | (with_reducible refine zE ?_) | ((with_reducible apply zP); (first | exact o_indexF rg0 frC_len (by decide) rfl rfl (by omega) rfl | exact dp)) | ((with_reducible apply zN); exact dn) | ((with_reducible apply zA); exact da) | ((with_reducible apply zS); exact ds) | ((with_reducible apply zY); exact rfl; exact rfl; exact tf) | ((with_reducible apply zG); exact rfl; exact rfl; exact tf) | ((with_reducible apply zU); exact rfl; exact rfl) | ((with_reducible apply zD); exact rfl; exact rfl) | ((with_reducible apply zB); exact rfl; exact rfl)))
      ((with_reducible first | apply q_retR | apply q_retN); exact rl)
      rfl
  · rw [List.drop_of_length_le (by omega)] at hE
    have hE : exB c = true := hE
    rw [hE]
    exact zF
/-! Copies. -/
theorem copyRanges_A (c : List Rg) (hm : c.length ≤ 1000000) : AC Tryz.prog 66 [rgV c] (rgV c) := by
  have hl := rgS_len c
  by_cases h0 : c.length = 0
  · obtain rfl : c = [] := List.length_eq_zero_iff.1 h0
    refine ac_body Tryz.func66 rfl (by kernel_rfl) fun w0 ok => ?_; show AWp _ (ctx0 w0 ok _) _ (ARet _ _ _) (entry _)
    exact zF
  · refine ac_body Tryz.func66 rfl (by kernel_rfl) fun w0 ok => ?_; show AWp _ (ctx0 w0 ok _) _ (ARet _ _ _) (entry _)
    (repeat' (first | (with_reducible first | intro hg | refine mv (by constructor) ?_) | ((with_reducible first | refine zR ?_ ?_ | refine zW mixed ?_ ?_); exact kr) | ((with_reducible apply zK); exact rfl; exact tf) | ((with_reducible apply zCD); exact rfl) | ((with_reducible apply zCN); exact rfl) | ((with_reducible apply zC); exact rfl) | ((with_reducible refine zX ?_ ?_); exact rfl) | ((with_reducible refine zE (And.intro ?_ ?_)); exact kr) | (with_reducible refine zE ?_) | ((with_reducible apply zP); exact dp) | ((with_reducible apply zN); exact dn) | ((with_reducible apply zA); (first | ((apply o_app); (case hx => exact rfl); (case hm => exact rfl); (case hy => exact .own rfl rfl); (case hty => exact rfl); (case hl => solve | exact hl | rfl); (case hcl => solve | rfl | exact hl | simp); (case hpos => omega); (case hb => omega); (case hb2 => omega); (case hnew => exact rfl)) | ((apply o_app); (case hx => exact rfl); (case hm => exact rfl); (case hy => exact .sl rfl); (case hty => exact rfl); (case hl => solve | exact hl | rfl); (case hcl => solve | rfl | exact hl | simp); (case hpos => omega); (case hb => omega); (case hb2 => omega); (case hnew => exact rfl)) | exact da)) | ((with_reducible apply zS); exact ds) | ((with_reducible apply zY); exact rfl; exact rfl; exact tf) | ((with_reducible apply zG); exact rfl; exact rfl; exact tf) | ((with_reducible apply zU); exact rfl; exact rfl) | ((with_reducible apply zD); exact rfl; exact rfl) | ((with_reducible apply zB); exact rfl; exact rfl)))
    ((with_reducible first | apply q_retR | apply q_retN); exact rl)
    show DV.slice c.length (rgS c) = DV.slice (0 + c.length) ((([] ++ rgS c).drop 0).take ((0 + c.length) * 2))
    rw [Nat.zero_add, List.nil_append, List.drop_zero, List.take_of_length_le (by omega)]
theorem qcopy_A (c : List Rg) (den : Int) (hm : c.length ≤ 1000000) : AC Tryz.prog 14 [loV c den] (loV c den) := by
  refine ac_body Tryz.func14 rfl (by kernel_rfl) fun w0 ok => ?_; show AWp _ (ctx0 w0 ok _) _ (ARet _ _ _) (entry _)
  (repeat' (first | (with_reducible first | intro hg | refine mv (by constructor) ?_) | ((with_reducible first | refine zR ?_ ?_ | refine zW mixed ?_ ?_); exact kr) | ((with_reducible apply zK); exact rfl; exact tf) | ((with_reducible apply zCD); exact rfl) | ((with_reducible apply zCN); exact rfl) | ((with_reducible apply zC); exact rfl) | ((with_reducible refine zX ?_ ?_); exact rfl) | ((with_reducible refine zE (And.intro ?_ ?_)); exact kr) | (with_reducible refine zE ?_) | ((with_reducible apply zP); (first | exact dp | exact oc rfl (copyRanges_A c hm))) | ((with_reducible apply zN); exact dn) | ((with_reducible apply zA); exact da) | ((with_reducible apply zS); exact ds) | ((with_reducible apply zY); exact rfl; exact rfl; exact tf) | ((with_reducible apply zG); exact rfl; exact rfl; exact tf) | ((with_reducible apply zU); exact rfl; exact rfl) | ((with_reducible apply zD); exact rfl; exact rfl) | ((with_reducible apply zB); exact rfl; exact rfl)))
  ((with_reducible first | apply q_retR | apply q_retN); exact rl)
  rfl
theorem copyProof_A (s : Int) (w : List Int) (hw : w.length ≤ 1000000) : AC Tryz.prog 27 [.agg (prI s w)] (.agg (prI s w)) := by
  refine ac_body Tryz.func27 rfl (by kernel_rfl) fun w0 ok => ?_; show AWp _ (ctx0 w0 ok _) _ (ARet _ _ _) (entry _)
  (repeat' (first | (with_reducible first | intro hg | refine mv (by constructor) ?_) | ((with_reducible first | refine zR ?_ ?_ | refine zW mixed ?_ ?_); exact kr) | ((with_reducible apply zK); exact rfl; exact tf) | ((with_reducible apply zCD); exact rfl) | ((with_reducible apply zCN); exact rfl) | ((with_reducible apply zC); exact rfl) | ((with_reducible refine zX ?_ ?_); exact rfl) | ((with_reducible refine zE (And.intro ?_ ?_)); exact kr) | (with_reducible refine zE ?_) | ((with_reducible apply zP); (first | exact dp | exact oc rfl (copyInts_A w hw))) | ((with_reducible apply zN); exact dn) | ((with_reducible apply zA); exact da) | ((with_reducible apply zS); exact ds) | ((with_reducible apply zY); exact rfl; exact rfl; exact tf) | ((with_reducible apply zG); exact rfl; exact rfl; exact tf) | ((with_reducible apply zU); exact rfl; exact rfl) | ((with_reducible apply zD); exact rfl; exact rfl) | ((with_reducible apply zB); exact rfl; exact rfl)))
  ((with_reducible first | apply q_retR | apply q_retN); exact rl)
  rfl
theorem llS_snoc (l : List (List Int)) (r : List Int) : llS l ++ [isl r] = llS (l ++ [r]) := by simp [llS]
/-! What laws ask of their arguments. -/
theorem few_A (c : List Rg) (den : Int) : AC Tryz.prog 10 [loV c den] (B (decide ((c.length : Int) ≤ 5))) := by
  refine ac_body Tryz.func10 rfl (by kernel_rfl) fun w0 ok => ?_; show AWp _ (ctx0 w0 ok _) _ (ARet _ _ _) (entry _)
  exact zF
theorem short_A (x : List Int) : AC Tryz.prog 11 [isl x] (B (decide ((x.length : Int) ≤ 5))) := by
  refine ac_body Tryz.func11 rfl (by kernel_rfl) fun w0 ok => ?_; show AWp _ (ctx0 w0 ok _) _ (ARet _ _ _) (entry _)
  exact zF
theorem fracs_A (l : List Fr) (hm : l.length ≤ 140737488355328) : AC Tryz.prog 25 [.slice l.length (rgS l), .slice l.length (rgS l)] (B true) := by
  refine ac_body Tryz.func25 rfl (by kernel_rfl) fun w0 ok => ?_; show AWp _ (ctx0 w0 ok _) _ (ARet _ _ _) (entry _)
  (repeat' (first | (with_reducible first | intro hg | refine mv (by constructor) ?_) | ((with_reducible first | refine zR ?_ ?_ | refine zW mixed ?_ ?_); exact kr) | ((with_reducible apply zK); exact rfl; exact tf) | ((with_reducible apply zCD); exact rfl) | ((with_reducible apply zCN); exact rfl) | ((with_reducible apply zC); exact rfl) | ((with_reducible refine zX ?_ ?_); exact rfl) | ((with_reducible refine zE (And.intro ?_ ?_)); exact kr) | (with_reducible refine zE ?_) | ((with_reducible apply zP); exact dp) | ((with_reducible apply zN); exact dn) | ((with_reducible apply zA); exact da) | ((with_reducible apply zS); exact ds) | ((with_reducible apply zY); exact rfl; exact rfl; exact tf) | ((with_reducible apply zG); exact rfl; exact rfl; exact tf) | ((with_reducible apply zU); exact rfl; exact rfl) | ((with_reducible apply zD); exact rfl; exact rfl) | ((with_reducible apply zB); exact rfl; exact rfl)))
  refine awp_loopL (α := Nat) (fun k => [(0, .d (.slice l.length (rgS l))), (1, .d (.slice l.length (rgS l))), (5, .d (I k))]) (fun _ => []) (fun k => k ≤ l.length) (fun k => l.length - k) 0 (Nat.zero_le _) (And.intro rfl (And.intro rfl (And.intro rfl trivial))) trivial fun k hk => ?_
  by_cases hlt : k < l.length
  · (repeat' (first | (with_reducible first | intro hg | refine mv (by constructor) ?_) | ((with_reducible first | refine zR ?_ ?_ | refine zW mixed ?_ ?_); exact kr) | ((with_reducible apply zK); exact rfl; exact tf) | ((with_reducible apply zCD); exact rfl) | ((with_reducible apply zCN); exact rfl) | ((with_reducible apply zC); exact rfl) | ((with_reducible refine zX ?_ ?_); exact rfl) | ((with_reducible refine zE (And.intro ?_ ?_)); exact kr) | (with_reducible refine zE ?_) | ((with_reducible apply zP); (first | exact o_indexF rg0 frC_len (by decide) rfl rfl (by omega) rfl | exact o_neqS rfl rfl rfl rfl | exact dp)) | ((with_reducible apply zN); exact dn) | ((with_reducible apply zA); exact da) | ((with_reducible apply zS); exact ds) | ((with_reducible apply zY); exact rfl; exact rfl; exact tf) | ((with_reducible apply zG); exact rfl; exact rfl; exact tf) | ((with_reducible apply zU); exact rfl; exact rfl) | ((with_reducible apply zD); exact rfl; exact rfl) | ((with_reducible apply zB); exact rfl; exact rfl)))
    exact ⟨k + 1, hlt, by omega, (And.intro rfl (And.intro rfl (And.intro rfl trivial))), trivial⟩
  · exact zF
end Go.Proofs.YtiabcffcbhlbiaaGreat
