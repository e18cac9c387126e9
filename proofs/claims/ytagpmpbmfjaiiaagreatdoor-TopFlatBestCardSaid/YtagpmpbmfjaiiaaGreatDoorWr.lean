/- TopFlatBest: the walk, and what it answers. -/
import Derived.Test.YtagpmpbmfjaiiaaGreatDoorWq1
import Derived.Test.YtagpmpbmfjaiiaaGreatDoorWq2
import Derived.Test.YtagpmpbmfjaiiaaGreatDoorWq3
import Derived.Test.YtagpmpbmfjaiiaaGreatDoorWA
import Derived.Test.YtagpmpbmfjaiiaaGreatDoorTg
import Derived.Test.YtagpmpbmfjaiiaaGreatDoorSm
import Derived.Test.YtagpmpbmfjaiiaaGreatDoorPs
set_option linter.unusedVariables false
set_option linter.unusedSimpArgs false
namespace Go.Proofs.YtagpmpbmfjaiiaaGreatDoor
open Go.RowKit
set_option maxRecDepth 20000
set_option maxHeartbeats 8000000

theorem flatShown_A : AC Tryz.prog 23 [] (B true) := by
  have h1 := ints_same [2] (by decide)
  refine ac_body Tryz.func23 rfl (by kernel_rfl) fun w0 ok => ?_; show AWp _ (ctx0 w0 ok _) _ (ARet _ _ _) (entry _)
  (repeat' (first | (with_reducible first | intro hg | refine mv (by constructor) ?_) | ((with_reducible first | refine zR ?_ ?_ | refine zW mixed ?_ ?_); exact kr) | ((with_reducible apply zK); exact rfl; exact tf) | ((with_reducible apply zCD); exact rfl) | ((with_reducible apply zCN); exact rfl) | ((with_reducible apply zC); exact rfl) | ((with_reducible refine zX ?_ ?_); exact rfl) | ((with_reducible refine zE (And.intro ?_ ?_)); exact kr) | (with_reducible refine zE ?_) | ((with_reducible apply zP); (first | exact o_buildSlD rfl (by decide) rfl | exact dp | exact oc rfl (rules_A) | exact oc rfl (ex_best) | exact oc rfl (ex_bound) | exact oc rfl (h1))) | ((with_reducible apply zN); exact dn) | ((with_reducible apply zA); exact da) | ((with_reducible apply zS); exact ds) | ((with_reducible apply zY); exact rfl; exact rfl; exact tf) | ((with_reducible apply zG); exact rfl; exact rfl; exact tf) | ((with_reducible apply zU); exact rfl; exact rfl) | ((with_reducible apply zD); exact rfl; exact rfl) | ((with_reducible apply zB); exact rfl; exact rfl)))
  ((with_reducible first | apply q_retR | apply q_retN); exact rl)
  rfl
theorem bestMid (T : List Int) (A : List Act3) (h : RulOk T A) (he : rulE T A = (0, 0)) (hfew : FewOk T A) (w0 : World) (ok : Nat → Prop) :
    AWp Tryz.prog (ctx0 w0 ok Tryz.f5.ntmps) (dropSeq 10 (Tryz.f5.body.getD .skip)) (ARet Tryz.prog Tryz.f5.results.toList (B true)) ⟨frL [(2, .ptr 2 0), (5, .ptr 5 0), (7, .d (isl (bestS T A).1)), (8, .d (I (bestS T A).2))], memL [(2, ⟨25, rulC T A⟩), (5, ⟨25, rulC T A⟩)]⟩ := by
  obtain ⟨bm, be, bl⟩ := bestS_ok h
  obtain ⟨j, hj, hjb, hjl, _⟩ := bestS_first h
  have hso := (allS_ok h).ok _ bm
  have hn0 := maxTo_bnd h hso T.length (Nat.le_refl _)
  have hn1 : 0 ≤ (bestS T A).2 ∧ (bestS T A).2 ≤ 130000 := by rw [be]; exact hn0
  have hbl : (bestS T A).1.length ≤ 3 := by have := hso.1; have := h.a3; omega
  have hcr := hfew.copy
  have hset := allS_ok h
  have ht9 := h.t9
  show AWp _ _ (.seq _ _) _ _
  by_cases hbig : 100000 < (bestS T A).2
  · clear be bl hjl
    generalize (bestS T A).2 = n at *
    (repeat' (first | (with_reducible first | intro hg | refine mv (by constructor) ?_) | ((with_reducible first | refine zR ?_ ?_ | refine zW mixed ?_ ?_); exact kr) | ((with_reducible apply zK); exact rfl; exact tf) | ((with_reducible apply zCD); exact rfl) | ((with_reducible apply zCN); exact rfl) | ((with_reducible apply zC); exact rfl) | ((with_reducible refine zX ?_ ?_); exact rfl) | ((with_reducible refine zE (And.intro ?_ ?_)); exact kr) | (with_reducible refine zE ?_) | ((with_reducible apply zP); exact dp) | ((with_reducible apply zN); exact dn) | ((with_reducible apply zA); exact da) | ((with_reducible apply zS); exact ds) | ((with_reducible apply zY); exact rfl; exact rfl; exact tf) | ((with_reducible apply zG); exact rfl; exact rfl; exact tf) | ((with_reducible apply zU); exact rfl; exact rfl) | ((with_reducible apply zD); exact rfl; exact rfl) | ((with_reducible apply zB); exact rfl; exact rfl)))
    ((with_reducible first | apply q_retR | apply q_retN); exact rl)
    rfl
  have hin : inR (bestS T A).2 0 100000 = true := inR_iff.2 ⟨by omega, by omega⟩
  have hkj : keepB T A (bestS T A).2 ((allS A).getD j []) = true := by
    show decide (maxP T A _ ≤ _) = true
    rw [← hjb, ← be]
    exact decide_eq_true (Int.le_refl _)
  have hkl : ∀ i, i < j → keepB T A (bestS T A).2 ((allS A).getD i []) = false := fun i hi => by
    show decide (maxP T A _ ≤ _) = false
    have := hjl i hi
    exact decide_eq_false (by omega)
  have g1 := firstWithin_A T A (allS A) (bestS T A).2 h hset he hin (.tuple [isl (bestS T A).1, I 0]) (fun k hk h1 h2 => by
    have : k = j := by
      rcases Nat.lt_trichotomy k j with hx | hx | hx
      · rw [hkl k hx] at h2; exact absurd h2 (by decide)
      · exact hx
      · rw [h1 j hx] at hkj; exact absurd hkj (by decide)
    rw [this, ← hjb]) (fun h1 => by rw [h1 j hj] at hkj; exact absurd hkj (by decide))
  have si := ints_same (bestS T A).1 (by omega)
  by_cases hz : (bestS T A).2 = 0
  · clear be bl hjl hkj hkl
    rw [hz] at g1 hbig ⊢
    (repeat' (first | (with_reducible first | intro hg | refine mv (by constructor) ?_) | ((with_reducible first | refine zR ?_ ?_ | refine zW mixed ?_ ?_); exact kr) | ((with_reducible apply zK); exact rfl; exact tf) | ((with_reducible apply zCD); exact rfl) | ((with_reducible apply zCN); exact rfl) | ((with_reducible apply zC); exact rfl) | ((with_reducible refine zX ?_ ?_); exact rfl) | ((with_reducible refine zE (And.intro ?_ ?_)); exact kr) | (with_reducible refine zE ?_) | ((with_reducible apply zP); (first | exact dp | exact oc rfl (hcr) | exact oc rfl (g1) | exact oc rfl (si))) | ((with_reducible apply zN); exact dn) | ((with_reducible apply zA); exact da) | ((with_reducible apply zS); exact ds) | ((with_reducible apply zY); exact rfl; exact rfl; exact tf) | ((with_reducible apply zG); exact rfl; exact rfl; exact tf) | ((with_reducible apply zU); exact rfl; exact rfl) | ((with_reducible apply zD); exact rfl; exact rfl) | ((with_reducible apply zB); exact rfl; exact rfl)))
    ((with_reducible first | apply q_retR | apply q_retN); exact rl)
    rfl
  have hm0 : 0 ≤ (bestS T A).2 - 1 := by omega
  have hin2 : inR ((bestS T A).2 - 1) 0 100000 = true := inR_iff.2 ⟨by omega, by omega⟩
  have g3 := contra_A T A (allS A) ((bestS T A).2 - 1) h hset he hin2
  have hall : ∀ k, k < (allS A).length → keepB T A ((bestS T A).2 - 1) ((allS A).getD k []) = false := fun k hk => by
    show decide (maxP T A _ ≤ _) = false
    have := bl ((allS A).getD k []) (by rw [List.getD_eq_getElem?_getD, List.getElem?_eq_getElem hk]; exact List.getElem_mem hk)
    exact decide_eq_false (by omega)
  have hs := contP_some (T := T) (A := A) (m := (bestS T A).2 - 1) (L := allS A) h.t9 h.t0 hm0 hall
  obtain ⟨b, hbs⟩ := Option.isSome_iff_exists.1 hs
  obtain ⟨p, rfl, hc⟩ := contP_ok h.t9 hbs
  rw [hbs] at g3
  have g3 : AC Tryz.prog 48 [rulV T A, I ((bestS T A).2 - 1)] (.tuple [posV p, I 0]) := by rw [← posV_eq]; exact g3
  obtain ⟨b2, m2, hm2, hb2⟩ := contra_best h (by omega) hc
  have hp0 := hc.pos
  have hpl := hc.len
  have ha0 := h.a0
  have ha3 := h.a3
  clear be bl hjl hkj hkl hall hs hbs hjb
  generalize (bestS T A).2 = n at *
  (repeat' ((fail_if_success (with_reducible show AWp _ _ (.seq (.region 31 _ _) _) _ _)); (first | (with_reducible first | intro hg | refine mv (by constructor) ?_) | ((with_reducible first | refine zR ?_ ?_ | refine zW mixed ?_ ?_); exact kr) | ((with_reducible apply zK); exact rfl; exact tf) | ((with_reducible apply zCD); exact rfl) | ((with_reducible apply zCN); exact rfl) | ((with_reducible apply zC); exact rfl) | ((with_reducible refine zX ?_ ?_); exact rfl) | ((with_reducible refine zE (And.intro ?_ ?_)); exact kr) | (with_reducible refine zE ?_) | ((with_reducible apply zP); (first | exact dp | exact oc rfl (hcr) | exact oc rfl (g1) | exact oc rfl (si) | exact oc rfl (g3))) | ((with_reducible apply zN); exact dn) | ((with_reducible apply zA); exact da) | ((with_reducible apply zS); exact ds) | ((with_reducible apply zY); exact rfl; exact rfl; exact tf) | ((with_reducible apply zG); exact rfl; exact rfl; exact tf) | ((with_reducible apply zU); exact rfl; exact rfl) | ((with_reducible apply zD); exact rfl; exact rfl) | ((with_reducible apply zB); exact rfl; exact rfl))))
  refine awp_weaken (le_of (l := [(2, .ptr 2 0), (8, .d (I n)), (17, .d (posV p))]) (m := [(2, ⟨25, rulC T A⟩)]) (And.intro rfl (And.intro rfl (And.intro rfl trivial))) (And.intro rfl trivial)) ?_
  clear hcr g1 si g3
  match A, ha0, ha3 with
  | [u0], _, _ => exact bestTail1 T u0 n m2 b2 p h hc hm2 hb2 w0 ok
  | [u0, u1], _, _ => exact bestTail2 T u0 u1 n m2 b2 p h hc hm2 hb2 w0 ok
  | [u0, u1, u2], _, _ => exact bestTail3 T u0 u1 u2 n m2 b2 p h hc hm2 hb2 w0 ok
  | _ :: _ :: _ :: _ :: _, _, hx => exact absurd hx (by simp)
/-- The bound of weights: an error, or a fraction in lowest terms that no settings go below. -/
theorem bound_cases (T : List Int) (A : List Act3) (w : List Int) (h : RulOk T A) (he : rulE T A = (0, 0)) (hm : w.length ≤ 140737488355328) : ∃ (f : Int × Int) (e : Int), AC Tryz.prog 43 [rulV T A, isl w] (.tuple [F2 f, I e]) ∧
    (e ≠ 0 ∨ e = 0 ∧ lowP f = true ∧ smF f = true ∧ ∀ l ∈ allS A, f.1 * 1 - maxP T A l * f.2 ≤ 0) := by
  have g := boundOf_A T A w h he hm
  by_cases hin : bndE 0 T w = 0
  · obtain ⟨hw, hz, _⟩ := bndE_ok hin
    have hbw : bndR T A w = frc (num2 (numT T w w.length) A w A.length) (denT w w.length) := bndR_0 hin
    have hle := fun l (hl : l ∈ allS A) => bound_le (T := T) (A := A) (w := w) (xs := l) hw.l hz (setE_ok (setE_iff.2 hl)).2
    have hlp := low_lowP (n := num2 (numT T w w.length) A w A.length) hz
    unfold frc at hbw
    generalize low (num2 (numT T w w.length) A w A.length) (denT w w.length) = f at *
    cases hsf : smF f
    · rw [hsf] at hbw
      rw [hbw] at g
      exact ⟨_, _, g, .inl (show (8 : Int) ≠ 0 by decide)⟩
    · rw [hsf] at hbw
      rw [hbw] at g
      exact ⟨_, _, g, .inr ⟨rfl, hlp, hsf, hle⟩⟩
  · rw [bndR_e rfl hin] at g
    exact ⟨_, _, g, .inl hin⟩
theorem topFlatBest_T (T : List Int) (A : List Act3) (w : List Int) (hT : ∀ v ∈ T, I64 v) (hA : ∀ a ∈ A, ∀ v ∈ actL a, I64 v) (hmw : w.length ≤ 140737488355328) : AC Tryz.prog 5 [rulV T A, isl w] (B true) := by
  have aw := flatShown_A
  have hf := few_A T A
  cases hq : fewP T A
  · rw [hq] at hf
    refine ac_body Tryz.func5 rfl (by kernel_rfl) fun w0 ok => ?_; show AWp _ (ctx0 w0 ok _) _ (ARet _ _ _) (entry _)
    (repeat' (first | (with_reducible first | intro hg | refine mv (by constructor) ?_) | ((with_reducible first | refine zR ?_ ?_ | refine zW mixed ?_ ?_); exact kr) | ((with_reducible apply zK); exact rfl; exact tf) | ((with_reducible apply zCD); exact rfl) | ((with_reducible apply zCN); exact rfl) | ((with_reducible apply zC); exact rfl) | ((with_reducible refine zX ?_ ?_); exact rfl) | ((with_reducible refine zE (And.intro ?_ ?_)); exact kr) | (with_reducible refine zE ?_) | ((with_reducible apply zP); (first | exact dp | exact oc rfl (aw) | exact oc rfl (hf))) | ((with_reducible apply zN); exact dn) | ((with_reducible apply zA); exact da) | ((with_reducible apply zS); exact ds) | ((with_reducible apply zY); exact rfl; exact rfl; exact tf) | ((with_reducible apply zG); exact rfl; exact rfl; exact tf) | ((with_reducible apply zU); exact rfl; exact rfl) | ((with_reducible apply zD); exact rfl; exact rfl) | ((with_reducible apply zB); exact rfl; exact rfl)))
    ((with_reducible first | apply q_retR | apply q_retN); exact rl)
    rfl
  rw [hq] at hf
  have hfo := fewP_ok hq
  have hlo := hfo.len
  have hcr := hfo.copy
  have hre := rulesErr_A T A hlo
  by_cases he : (rulE T A).2 = 0
  rotate_left
  · refine ac_body Tryz.func5 rfl (by kernel_rfl) fun w0 ok => ?_; show AWp _ (ctx0 w0 ok _) _ (ARet _ _ _) (entry _)
    (repeat' (first | (with_reducible first | intro hg | refine mv (by constructor) ?_) | ((with_reducible first | refine zR ?_ ?_ | refine zW mixed ?_ ?_); exact kr) | ((with_reducible apply zK); exact rfl; exact tf) | ((with_reducible apply zCD); exact rfl) | ((with_reducible apply zCN); exact rfl) | ((with_reducible apply zC); exact rfl) | ((with_reducible refine zX ?_ ?_); exact rfl) | ((with_reducible refine zE (And.intro ?_ ?_)); exact kr) | (with_reducible refine zE ?_) | ((with_reducible apply zP); (first | exact dp | exact oc rfl (aw) | exact oc rfl (hf) | exact oc rfl (hre))) | ((with_reducible apply zN); exact dn) | ((with_reducible apply zA); exact da) | ((with_reducible apply zS); exact ds) | ((with_reducible apply zY); exact rfl; exact rfl; exact tf) | ((with_reducible apply zG); exact rfl; exact rfl; exact tf) | ((with_reducible apply zU); exact rfl; exact rfl) | ((with_reducible apply zD); exact rfl; exact rfl) | ((with_reducible apply zB); exact rfl; exact rfl)))
    ((with_reducible first | apply q_retR | apply q_retN); exact rl)
    rfl
  by_cases hwl : (12 : Int) < (w.length : Int)
  · rw [he] at hre
    refine ac_body Tryz.func5 rfl (by kernel_rfl) fun w0 ok => ?_; show AWp _ (ctx0 w0 ok _) _ (ARet _ _ _) (entry _)
    (repeat' (first | (with_reducible first | intro hg | refine mv (by constructor) ?_) | ((with_reducible first | refine zR ?_ ?_ | refine zW mixed ?_ ?_); exact kr) | ((with_reducible apply zK); exact rfl; exact tf) | ((with_reducible apply zCD); exact rfl) | ((with_reducible apply zCN); exact rfl) | ((with_reducible apply zC); exact rfl) | ((with_reducible refine zX ?_ ?_); exact rfl) | ((with_reducible refine zE (And.intro ?_ ?_)); exact kr) | (with_reducible refine zE ?_) | ((with_reducible apply zP); (first | exact dp | exact oc rfl (aw) | exact oc rfl (hf) | exact oc rfl (hre))) | ((with_reducible apply zN); exact dn) | ((with_reducible apply zA); exact da) | ((with_reducible apply zS); exact ds) | ((with_reducible apply zY); exact rfl; exact rfl; exact tf) | ((with_reducible apply zG); exact rfl; exact rfl; exact tf) | ((with_reducible apply zU); exact rfl; exact rfl) | ((with_reducible apply zD); exact rfl; exact rfl) | ((with_reducible apply zB); exact rfl; exact rfl)))
    ((with_reducible first | apply q_retR | apply q_retN); exact rl)
    rfl
  obtain ⟨h00, hok⟩ := rulE_ok he
  have hfm : FmtOk T A := ⟨by have := hfo.t; omega, by have := hfo.a; omega, fun a ha => by have := hfo.e a ha; omega, hT, hA⟩
  have f1 := formatRules_A T A hfm
  have k1 := parse_fmt T A he
  have sr := sameRules_A T A hlo
  have g1 := best_ok T A hok h00
  obtain ⟨bm, be, bl⟩ := bestS_ok hok
  obtain ⟨_, _, _, _, hjl⟩ := bestS_first hok
  have hset := allS_ok hok
  have hll := allS_len hok
  have hso := hset.ok _ bm
  have ha3 := hok.a3
  have hn0 := maxTo_bnd hok hso T.length (Nat.le_refl _)
  have se := refSettingsErr_A T A (bestS T A).1 (by omega)
  rw [setE_iff.2 bm] at se
  have mx := refMaximum_A T A (bestS T A).1 hok hso
  rw [← be] at mx
  have hcw := copyInts_A w (by omega)
  have al := refAll_A T A hok
  obtain ⟨f, e, g4, hfe⟩ := bound_cases T A w hok h00 hmw
  have mid := fun w0 ok => bestMid T A hok h00 hfo w0 ok
  rw [he] at hre
  have hbl := hso.1
  have hn1 : 0 ≤ (bestS T A).2 ∧ (bestS T A).2 ≤ 130000 := by rw [be]; exact hn0
  clear hT hA hfm hq hlo hn0 be
  generalize hy : bestS T A = y at *
  generalize fmtR T A = a at *
  refine ac_body Tryz.func5 rfl (by kernel_rfl) fun w0 ok => ?_; show AWp _ (ctx0 w0 ok _) _ (ARet _ _ _) (entry _)
  (repeat' (first | (with_reducible first | intro hg | refine mv (by constructor) ?_) | ((with_reducible first | refine zR ?_ ?_ | refine zW mixed ?_ ?_); exact kr) | ((with_reducible apply zK); exact rfl; exact tf) | ((with_reducible apply zCD); exact rfl) | ((with_reducible apply zCN); exact rfl) | ((with_reducible apply zC); exact rfl) | ((with_reducible refine zX ?_ ?_); exact rfl) | ((with_reducible refine zE (And.intro ?_ ?_)); exact kr) | (with_reducible refine zE ?_) | ((with_reducible apply zP); (first | exact dp | exact oc rfl (aw) | exact oc rfl (hf) | exact oc rfl (hre) | exact oc rfl (hcr) | exact oc rfl (f1) | exact oc rfl (k1) | exact oc rfl (sr) | exact oc rfl (g1) | exact oc rfl (se) | exact oc rfl (mx) | exact oc rfl (hcw) | exact oc rfl (g4) | exact oc rfl (al))) | ((with_reducible apply zN); exact dn) | ((with_reducible apply zA); exact da) | ((with_reducible apply zS); exact ds) | ((with_reducible apply zY); exact rfl; exact rfl; exact tf) | ((with_reducible apply zG); exact rfl; exact rfl; exact tf) | ((with_reducible apply zU); exact rfl; exact rfl) | ((with_reducible apply zD); exact rfl; exact rfl) | ((with_reducible apply zB); exact rfl; exact rfl)))
  clear aw hf hre hcr f1 k1 sr g1 se mx hcw g4 al
  refine awp_loopL (α := Nat) (fun k => [(2, .ptr 2 0), (5, .ptr 5 0), (7, .d (isl y.1)), (8, .d (I y.2)), (10, .ptr 10 0), (11, .d (I e)), (12, .d (slV (allS A))), (13, .d (I k))]) (fun _ => [(2, ⟨25, rulC T A⟩), (5, ⟨25, rulC T A⟩), (10, ⟨63, [I f.1, I f.2]⟩)]) (fun k => k ≤ (allS A).length) (fun k => (allS A).length - k) 0 (Nat.zero_le _) (And.intro rfl (And.intro rfl (And.intro rfl (And.intro rfl (And.intro rfl (And.intro rfl (And.intro rfl (And.intro rfl trivial)))))))) (And.intro rfl (And.intro rfl (And.intro rfl trivial))) fun k hk => ?_
  by_cases hlt : k < (allS A).length
  rotate_left
  · clear hjl bl hfe
    generalize allS A = L at *
    (repeat' ((fail_if_success (with_reducible show AWp _ _ (.seq (.seq (.region 21 _ _) _) _) _ _)); (first | (with_reducible first | intro hg | refine mv (by constructor) ?_) | ((with_reducible first | refine zR ?_ ?_ | refine zW mixed ?_ ?_); exact kr) | ((with_reducible apply zK); exact rfl; exact tf) | ((with_reducible apply zCD); exact rfl) | ((with_reducible apply zCN); exact rfl) | ((with_reducible apply zC); exact rfl) | ((with_reducible refine zX ?_ ?_); exact rfl) | ((with_reducible refine zE (And.intro ?_ ?_)); exact kr) | (with_reducible refine zE ?_) | ((with_reducible apply zP); exact dp) | ((with_reducible apply zN); exact dn) | ((with_reducible apply zA); exact da) | ((with_reducible apply zS); exact ds) | ((with_reducible apply zY); exact rfl; exact rfl; exact tf) | ((with_reducible apply zG); exact rfl; exact rfl; exact tf) | ((with_reducible apply zU); exact rfl; exact rfl) | ((with_reducible apply zD); exact rfl; exact rfl) | ((with_reducible apply zB); exact rfl; exact rfl))))
    refine awp_weaken (le_of (l := [(2, .ptr 2 0), (5, .ptr 5 0), (7, .d (isl y.1)), (8, .d (I y.2))]) (m := [(2, ⟨25, rulC T A⟩), (5, ⟨25, rulC T A⟩)]) (And.intro rfl (And.intro rfl (And.intro rfl (And.intro rfl trivial)))) (And.intro rfl (And.intro rfl trivial))) ?_
    exact mid w0 ok
  have hmem : (allS A).getD k [] ∈ allS A := by rw [List.getD_eq_getElem?_getD, List.getElem?_eq_getElem hlt]; exact List.getElem_mem hlt
  have hso2 := hset.ok _ hmem
  have m1 := refMaximum_A T A _ hok hso2
  have hb1 := maxTo_bnd hok hso2 T.length (Nat.le_refl _)
  have hb1 : 0 ≤ maxP T A ((allS A).getD k []) ∧ maxP T A ((allS A).getD k []) ≤ 130000 := hb1
  have hle := bl _ hmem
  have hbf := hjl k hlt
  have bf := before_A ((allS A).getD k []) y.1 (by rw [hso2.1, hbl]) (by rw [hso2.1]; omega)
  have hget : (((allS A).map isl).drop k)[0]? = some (isl ((allS A).getD k [])) := get_map [] hlt
  have hfe2 : e ≠ 0 ∨ e = 0 ∧ lowP f = true ∧ smF f = true ∧ f.1 * 1 - maxP T A ((allS A).getD k []) * f.2 ≤ 0 := by
    rcases hfe with h | ⟨h1, h2, h3, h4⟩
    · exact .inl h
    · exact .inr ⟨h1, h2, h3, h4 _ hmem⟩
  clear bl hjl hfe hmem hso2 hset mid hso
  generalize hX : (allS A).getD k [] = X at *
  generalize hM : maxP T A X = M at *
  rcases hfe2 with he0 | ⟨rfl, hlp, hsf, hfl⟩
  · by_cases hmn : M = y.2
    · rw [decide_eq_false (hbf hmn.symm)] at bf
      clear hbf
      (repeat' (first | (with_reducible first | intro hg | refine mv (by constructor) ?_) | ((with_reducible first | refine zR ?_ ?_ | refine zW mixed ?_ ?_); exact kr) | ((with_reducible apply zK); exact rfl; exact tf) | ((with_reducible apply zCD); exact rfl) | ((with_reducible apply zCN); exact rfl) | ((with_reducible apply zC); exact rfl) | ((with_reducible refine zX ?_ ?_); exact rfl) | ((with_reducible refine zE (And.intro ?_ ?_)); exact kr) | (with_reducible refine zE ?_) | ((with_reducible apply zP); (first | exact o_indexI (xs := allS A) (f := isl) rfl rfl hlt rfl | exact o_loadR1 rfl hget | exact dp | exact oc rfl (m1) | exact oc rfl (bf))) | ((with_reducible apply zN); exact dn) | ((with_reducible apply zA); exact da) | ((with_reducible apply zS); exact ds) | ((with_reducible apply zY); exact rfl; exact rfl; exact tf) | ((with_reducible apply zG); exact rfl; exact rfl; exact tf) | ((with_reducible apply zU); exact rfl; exact rfl) | ((with_reducible apply zD); exact rfl; exact rfl) | ((with_reducible apply zB); exact rfl; exact rfl)))
      exact ⟨k + 1, hlt, by omega, (And.intro rfl (And.intro rfl (And.intro rfl (And.intro rfl (And.intro rfl (And.intro rfl (And.intro rfl (And.intro rfl trivial)))))))), (And.intro rfl (And.intro rfl (And.intro rfl trivial)))⟩
    · clear hbf bf
      (repeat' (first | (with_reducible first | intro hg | refine mv (by constructor) ?_) | ((with_reducible first | refine zR ?_ ?_ | refine zW mixed ?_ ?_); exact kr) | ((with_reducible apply zK); exact rfl; exact tf) | ((with_reducible apply zCD); exact rfl) | ((with_reducible apply zCN); exact rfl) | ((with_reducible apply zC); exact rfl) | ((with_reducible refine zX ?_ ?_); exact rfl) | ((with_reducible refine zE (And.intro ?_ ?_)); exact kr) | (with_reducible refine zE ?_) | ((with_reducible apply zP); (first | exact o_indexI (xs := allS A) (f := isl) rfl rfl hlt rfl | exact o_loadR1 rfl hget | exact dp | exact oc rfl (m1))) | ((with_reducible apply zN); exact dn) | ((with_reducible apply zA); exact da) | ((with_reducible apply zS); exact ds) | ((with_reducible apply zY); exact rfl; exact rfl; exact tf) | ((with_reducible apply zG); exact rfl; exact rfl; exact tf) | ((with_reducible apply zU); exact rfl; exact rfl) | ((with_reducible apply zD); exact rfl; exact rfl) | ((with_reducible apply zB); exact rfl; exact rfl)))
      exact ⟨k + 1, hlt, by omega, (And.intro rfl (And.intro rfl (And.intro rfl (And.intro rfl (And.intro rfl (And.intro rfl (And.intro rfl (And.intro rfl trivial)))))))), (And.intro rfl (And.intro rfl (And.intro rfl trivial)))⟩
  · obtain ⟨r1, r2⟩ := smF_bnd hlp hsf
    have c1 := bIsLowest_A f ⟨⟨by omega, by omega⟩, ⟨by omega, by omega⟩⟩
    rw [hlp] at c1
    have c2 := bIsSmall_A f r2.1
    rw [hsf] at c2
    have c3 := compare2_A f.1 f.2 M 1 (by omega) (by omega) (by omega) (by decide)
    have hsg : ¬ 0 < sgnZ (f.1 * 1 - M * f.2) := by
      rcases Int.lt_trichotomy (f.1 * 1 - M * f.2) 0 with h | h | h
      · rw [sgn_neg h]; decide
      · rw [sgn_zero h]; decide
      · omega
    generalize sgnZ (f.1 * 1 - M * f.2) = g at *
    clear hfl
    by_cases hmn : M = y.2
    · rw [decide_eq_false (hbf hmn.symm)] at bf
      clear hbf
      (repeat' (first | (with_reducible first | intro hg | refine mv (by constructor) ?_) | ((with_reducible first | refine zR ?_ ?_ | refine zW mixed ?_ ?_); exact kr) | ((with_reducible apply zK); exact rfl; exact tf) | ((with_reducible apply zCD); exact rfl) | ((with_reducible apply zCN); exact rfl) | ((with_reducible apply zC); exact rfl) | ((with_reducible refine zX ?_ ?_); exact rfl) | ((with_reducible refine zE (And.intro ?_ ?_)); exact kr) | (with_reducible refine zE ?_) | ((with_reducible apply zP); (first | exact o_indexI (xs := allS A) (f := isl) rfl rfl hlt rfl | exact o_loadR1 rfl hget | exact dp | exact oc rfl (m1) | exact oc rfl (bf) | exact oc rfl (c1) | exact oc rfl (c2) | exact oc rfl (c3))) | ((with_reducible apply zN); exact dn) | ((with_reducible apply zA); exact da) | ((with_reducible apply zS); exact ds) | ((with_reducible apply zY); exact rfl; exact rfl; exact tf) | ((with_reducible apply zG); exact rfl; exact rfl; exact tf) | ((with_reducible apply zU); exact rfl; exact rfl) | ((with_reducible apply zD); exact rfl; exact rfl) | ((with_reducible apply zB); exact rfl; exact rfl)))
      exact ⟨k + 1, hlt, by omega, (And.intro rfl (And.intro rfl (And.intro rfl (And.intro rfl (And.intro rfl (And.intro rfl (And.intro rfl (And.intro rfl trivial)))))))), (And.intro rfl (And.intro rfl (And.intro rfl trivial)))⟩
    · clear hbf bf
      (repeat' (first | (with_reducible first | intro hg | refine mv (by constructor) ?_) | ((with_reducible first | refine zR ?_ ?_ | refine zW mixed ?_ ?_); exact kr) | ((with_reducible apply zK); exact rfl; exact tf) | ((with_reducible apply zCD); exact rfl) | ((with_reducible apply zCN); exact rfl) | ((with_reducible apply zC); exact rfl) | ((with_reducible refine zX ?_ ?_); exact rfl) | ((with_reducible refine zE (And.intro ?_ ?_)); exact kr) | (with_reducible refine zE ?_) | ((with_reducible apply zP); (first | exact o_indexI (xs := allS A) (f := isl) rfl rfl hlt rfl | exact o_loadR1 rfl hget | exact dp | exact oc rfl (m1) | exact oc rfl (c1) | exact oc rfl (c2) | exact oc rfl (c3))) | ((with_reducible apply zN); exact dn) | ((with_reducible apply zA); exact da) | ((with_reducible apply zS); exact ds) | ((with_reducible apply zY); exact rfl; exact rfl; exact tf) | ((with_reducible apply zG); exact rfl; exact rfl; exact tf) | ((with_reducible apply zU); exact rfl; exact rfl) | ((with_reducible apply zD); exact rfl; exact rfl) | ((with_reducible apply zB); exact rfl; exact rfl)))
      exact ⟨k + 1, hlt, by omega, (And.intro rfl (And.intro rfl (And.intro rfl (And.intro rfl (And.intro rfl (And.intro rfl (And.intro rfl (And.intro rfl trivial)))))))), (And.intro rfl (And.intro rfl (And.intro rfl trivial)))⟩
theorem topFlatBest_A (T : List Int) (A : List Act3) (w : List Int) (hT : ∀ v ∈ T, I64 v) (hA : ∀ a ∈ A, I64 a.lo ∧ I64 a.hi ∧ a.eff.length ≤ 140737488355328 ∧ ∀ x ∈ a.eff, I64 x) (hmw : w.length ≤ 140737488355328) : AC Tryz.prog 5 [rulV T A, isl w] (B true) := by
  refine topFlatBest_T T A w hT (fun a ha v hv => ?_) hmw
  obtain ⟨h1, h2, _, h3⟩ := hA a ha
  rcases List.mem_cons.1 hv with rfl | hv
  · exact h1
  · rcases List.mem_cons.1 hv with rfl | hv
    · exact h2
    · exact h3 v hv

end Go.Proofs.YtagpmpbmfjaiiaaGreatDoor
