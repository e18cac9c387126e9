/- Strings of rolls: numbers, the string of a roll, the roll of a string. -/
import Derived.Test.YtocnbbjcfgfgdaaGreatDoorNw
import Derived.Test.YtocnbbjcfgfgdaaGreatDoorW1
set_option linter.unusedVariables false
set_option linter.unusedSimpArgs false
namespace Go.Proofs.YtocnbbjcfgfgdaaGreatDoor
open Go.RowKit
set_option maxRecDepth 20000
set_option maxHeartbeats 8000000

abbrev dT (n : List UInt8) (p o : Int) : DV := .agg [T8 n, I p, I o]
/-- The number without a sign that a string spells. -/
def natN (l : List UInt8) : Option Int := if l.head? = some 45 then none else numN l 4
/-- The number that Atoi gives. -/
def nOf (l : List UInt8) : Int := match Lib.atoiAll l with
  | .ok v => v
  | _ => errN l
theorem nOf_i64 (l : List UInt8) : I64 (nOf l) := by
  unfold nOf
  cases h : Lib.atoiAll l with
  | ok v => exact atoi_i64 h
  | _ => exact errN_i64 l
theorem natN_some {l : List UInt8} {v : Int} (h : natN l = some v) : I64 v ∧ 0 ≤ v ∧ Lib.itoa v = l ∧ l.length ≤ 4 ∧ Lib.atoiAll l = .ok v := by
  unfold natN at h
  by_cases h1 : l.head? = some 45
  · rw [if_pos h1] at h; cases h
  rw [if_neg h1] at h
  obtain ⟨h2, h3, h4⟩ := numN_itoa (by decide) h
  have h5 := atoi_itoa h2
  rw [h3] at h5
  unfold trimL at h4
  rw [if_neg h1] at h4
  refine ⟨h2, ?_, h3, h4, h5⟩
  refine Int.not_lt.1 fun hv => h1 ?_
  rw [← h3, itoa_neg hv]; rfl
theorem natN_of {v : Int} (h0 : 0 ≤ v) (h : (Lib.itoa v).length ≤ 4) : natN (Lib.itoa v) = some v := by
  have h1 : ¬ (Lib.itoa v).head? = some 45 := fun e => by
    by_cases hv : v = 0
    · subst hv; rw [itoa_zero] at e; exact absurd e (by decide)
    · rw [itoa_pos (by omega)] at e
      obtain ⟨x, l, e2, _⟩ := dl_head v.toNat (by omega)
      rw [e2] at e
      injection e with e
      have := digB_iff.1 (dl_dig v.toNat x (by rw [e2]; simp))
      rw [e] at this
      exact absurd this.1 (by decide)
  unfold natN
  rw [if_neg h1]
  refine numN_of ?_
  unfold trimL
  rw [if_neg h1]; exact h
theorem numR_A (l : List UInt8) (hl : l.length ≤ 1000000) : AC Tryz.prog 32 [T8 l] (.tuple [I (nOf l), B (natN l).isSome]) := by
  by_cases hex : ∃ v, Lib.atoiAll l = .ok v
  · obtain ⟨v, ha⟩ := hex
    have hv := atoi_i64 ha
    have hat := atoi_A l hl v ha
    have hit := itoa_A v hv
    have hn : nOf l = v := by unfold nOf; rw [ha]
    have hs : (natN l).isSome = (decide (0 ≤ v) && (decide (Lib.itoa v = l) && decide ((l.length : Int) ≤ 4))) := by
      rw [Bool.eq_iff_iff, Bool.and_eq_true, Bool.and_eq_true, decide_eq_true_eq, decide_eq_true_eq, decide_eq_true_eq]
      constructor
      · intro h
        obtain ⟨u, hu⟩ := Option.isSome_iff_exists.1 h
        obtain ⟨_, h2, h3, h4, h5⟩ := natN_some hu
        rw [ha] at h5
        injection h5 with h5
        subst h5
        exact ⟨h2, h3, by omega⟩
      · rintro ⟨h1, h2, h3⟩
        have := natN_of h1 (by rw [h2]; omega)
        rw [h2] at this
        rw [this]; rfl
    rw [hn, hs]
    by_cases h1 : 0 ≤ v
    · by_cases h2 : Lib.itoa v = l
      · rw [decide_eq_true h1, decide_eq_true h2, Bool.true_and, Bool.true_and]
        refine ac_body Tryz.func32 rfl (by kernel_rfl) fun w0 ok => ?_; show AWp _ (ctx0 w0 ok _) _ (ARet _ _ _) (entry _)
        (repeat' (first | (with_reducible first | intro hg | refine mv (by constructor) ?_) | ((with_reducible first | refine zR ?_ ?_ | refine zW mixed ?_ ?_); exact kr) | ((with_reducible apply zK); exact rfl; exact tf) | ((with_reducible apply zCD); exact rfl) | ((with_reducible apply zCN); exact rfl) | ((with_reducible apply zC); exact rfl) | ((with_reducible refine zX ?_ ?_); exact rfl) | ((with_reducible refine zE (And.intro ?_ ?_)); exact kr) | (with_reducible refine zE ?_) | ((with_reducible apply zP); (first | exact o_eqlE0 Tryz.underlying121 rfl | exact o_eqlT rfl rfl | exact o_lenT8 rfl | exact dp | exact oc rfl (hat) | exact oc rfl (hit))) | ((with_reducible apply zN); exact dn) | ((with_reducible apply zA); exact da) | ((with_reducible apply zS); exact ds) | ((with_reducible apply zY); exact rfl; exact rfl; exact tf) | ((with_reducible apply zG); exact rfl; exact rfl; exact tf) | ((with_reducible apply zU); exact rfl; exact rfl) | ((with_reducible apply zD); exact rfl; exact rfl) | ((with_reducible apply zB); exact rfl; exact rfl)))
        ((with_reducible first | apply q_retR | apply q_retN); exact rl)
        rfl
      · rw [decide_eq_true h1, decide_eq_false h2, Bool.true_and, Bool.false_and]
        refine ac_body Tryz.func32 rfl (by kernel_rfl) fun w0 ok => ?_; show AWp _ (ctx0 w0 ok _) _ (ARet _ _ _) (entry _)
        (repeat' (first | (with_reducible first | intro hg | refine mv (by constructor) ?_) | ((with_reducible first | refine zR ?_ ?_ | refine zW mixed ?_ ?_); exact kr) | ((with_reducible apply zK); exact rfl; exact tf) | ((with_reducible apply zCD); exact rfl) | ((with_reducible apply zCN); exact rfl) | ((with_reducible apply zC); exact rfl) | ((with_reducible refine zX ?_ ?_); exact rfl) | ((with_reducible refine zE (And.intro ?_ ?_)); exact kr) | (with_reducible refine zE ?_) | ((with_reducible apply zP); (first | exact o_eqlE0 Tryz.underlying121 rfl | exact o_eqlT rfl rfl | exact o_lenT8 rfl | exact dp | exact oc rfl (hat) | exact oc rfl (hit))) | ((with_reducible apply zN); exact dn) | ((with_reducible apply zA); exact da) | ((with_reducible apply zS); exact ds) | ((with_reducible apply zY); exact rfl; exact rfl; exact tf) | ((with_reducible apply zG); exact rfl; exact rfl; exact tf) | ((with_reducible apply zU); exact rfl; exact rfl) | ((with_reducible apply zD); exact rfl; exact rfl) | ((with_reducible apply zB); exact rfl; exact rfl)))
        ((with_reducible first | apply q_retR | apply q_retN); exact rl)
        rfl
    · rw [decide_eq_false h1, Bool.false_and]
      refine ac_body Tryz.func32 rfl (by kernel_rfl) fun w0 ok => ?_; show AWp _ (ctx0 w0 ok _) _ (ARet _ _ _) (entry _)
      (repeat' (first | (with_reducible first | intro hg | refine mv (by constructor) ?_) | ((with_reducible first | refine zR ?_ ?_ | refine zW mixed ?_ ?_); exact kr) | ((with_reducible apply zK); exact rfl; exact tf) | ((with_reducible apply zCD); exact rfl) | ((with_reducible apply zCN); exact rfl) | ((with_reducible apply zC); exact rfl) | ((with_reducible refine zX ?_ ?_); exact rfl) | ((with_reducible refine zE (And.intro ?_ ?_)); exact kr) | (with_reducible refine zE ?_) | ((with_reducible apply zP); (first | exact o_eqlE0 Tryz.underlying121 rfl | exact o_eqlT rfl rfl | exact o_lenT8 rfl | exact dp | exact oc rfl (hat) | exact oc rfl (hit))) | ((with_reducible apply zN); exact dn) | ((with_reducible apply zA); exact da) | ((with_reducible apply zS); exact ds) | ((with_reducible apply zY); exact rfl; exact rfl; exact tf) | ((with_reducible apply zG); exact rfl; exact rfl; exact tf) | ((with_reducible apply zU); exact rfl; exact rfl) | ((with_reducible apply zD); exact rfl; exact rfl) | ((with_reducible apply zB); exact rfl; exact rfl)))
      ((with_reducible first | apply q_retR | apply q_retN); exact rl)
      rfl
  · have hat := atoi_E l hl fun v h => hex ⟨v, h⟩
    have hn : nOf l = errN l := by
      unfold nOf
      split
      · rename_i v h; exact absurd ⟨v, h⟩ hex
      · rfl
    have hs : (natN l).isSome = false := by
      rw [Option.isSome_eq_false_iff, Option.isNone_iff_eq_none]
      cases h : natN l with
      | none => rfl
      | some u => exact absurd ⟨u, (natN_some h).2.2.2.2⟩ hex
    rw [hn, hs]
    refine ac_body Tryz.func32 rfl (by kernel_rfl) fun w0 ok => ?_; show AWp _ (ctx0 w0 ok _) _ (ARet _ _ _) (entry _)
    (repeat' ((fail_if_success (with_reducible show AWp _ _ (.region 1 _ _) _ _)); (first | (with_reducible first | intro hg | refine mv (by constructor) ?_) | ((with_reducible first | refine zR ?_ ?_ | refine zW mixed ?_ ?_); exact kr) | ((with_reducible apply zK); exact rfl; exact tf) | ((with_reducible apply zCD); exact rfl) | ((with_reducible apply zCN); exact rfl) | ((with_reducible apply zC); exact rfl) | ((with_reducible refine zX ?_ ?_); exact rfl) | ((with_reducible refine zE (And.intro ?_ ?_)); exact kr) | (with_reducible refine zE ?_) | ((with_reducible apply zP); exact dp) | ((with_reducible apply zN); exact dn) | ((with_reducible apply zA); exact da) | ((with_reducible apply zS); exact ds) | ((with_reducible apply zY); exact rfl; exact rfl; exact tf) | ((with_reducible apply zG); exact rfl; exact rfl; exact tf) | ((with_reducible apply zU); exact rfl; exact rfl) | ((with_reducible apply zD); exact rfl; exact rfl) | ((with_reducible apply zB); exact rfl; exact rfl))))
    refine awp_regionL ?_
    ((refine wpl_run (l1 := [_]) rfl ?_ ?_); exact kr; (repeat' (first | (with_reducible first | intro hg | refine mv (by constructor) ?_) | ((with_reducible first | refine zR ?_ ?_ | refine zW mixed ?_ ?_); exact kr) | ((with_reducible apply zK); exact rfl; exact tf) | ((with_reducible apply zCD); exact rfl) | ((with_reducible apply zCN); exact rfl) | ((with_reducible apply zC); exact rfl) | ((with_reducible refine zX ?_ ?_); exact rfl) | ((with_reducible refine zE (And.intro ?_ ?_)); exact kr) | (with_reducible refine zE ?_) | ((with_reducible apply zP); exact dp) | ((with_reducible apply zN); exact dn) | ((with_reducible apply zA); exact da) | ((with_reducible apply zS); exact ds) | ((with_reducible apply zY); exact rfl; exact rfl; exact tf) | ((with_reducible apply zG); exact rfl; exact rfl; exact tf) | ((with_reducible apply zU); exact rfl; exact rfl) | ((with_reducible apply zD); exact rfl; exact rfl) | ((with_reducible apply zB); exact rfl; exact rfl))))
    refine wpl_callE rfl hat (by kernel_rfl) fun x => ?_
    ((refine wpl_run (l1 := [_, _, _, _, _]) rfl ?_ ?_); exact kr; (repeat' (first | (with_reducible first | intro hg | refine mv (by constructor) ?_) | ((with_reducible first | refine zR ?_ ?_ | refine zW mixed ?_ ?_); exact kr) | ((with_reducible apply zK); exact rfl; exact tf) | ((with_reducible apply zCD); exact rfl) | ((with_reducible apply zCN); exact rfl) | ((with_reducible apply zC); exact rfl) | ((with_reducible refine zX ?_ ?_); exact rfl) | ((with_reducible refine zE (And.intro ?_ ?_)); exact kr) | (with_reducible refine zE ?_) | ((with_reducible apply zP); exact dp) | ((with_reducible apply zN); exact dn) | ((with_reducible apply zA); exact da) | ((with_reducible apply zS); exact ds) | ((with_reducible apply zY); exact rfl; exact rfl; exact tf) | ((with_reducible apply zG); exact rfl; exact rfl; exact tf) | ((with_reducible apply zU); exact rfl; exact rfl) | ((with_reducible apply zD); exact rfl; exact rfl) | ((with_reducible apply zB); exact rfl; exact rfl))))
    refine wpl_nil ?_
    (repeat' (first | (with_reducible first | intro hg | refine mv (by constructor) ?_) | ((with_reducible first | refine zR ?_ ?_ | refine zW mixed ?_ ?_); exact kr) | ((with_reducible apply zK); exact rfl; exact tf) | ((with_reducible apply zCD); exact rfl) | ((with_reducible apply zCN); exact rfl) | ((with_reducible apply zC); exact rfl) | ((with_reducible refine zX ?_ ?_); exact rfl) | ((with_reducible refine zE (And.intro ?_ ?_)); exact kr) | (with_reducible refine zE ?_) | ((with_reducible apply zP); (first | exact o_eqlE Tryz.underlying121 rfl | exact o_eqlT rfl rfl | exact o_lenT8 rfl | exact dp)) | ((with_reducible apply zN); exact dn) | ((with_reducible apply zA); exact da) | ((with_reducible apply zS); exact ds) | ((with_reducible apply zY); exact rfl; exact rfl; exact tf) | ((with_reducible apply zG); exact rfl; exact rfl; exact tf) | ((with_reducible apply zU); exact rfl; exact rfl) | ((with_reducible apply zD); exact rfl; exact rfl) | ((with_reducible apply zB); exact rfl; exact rfl)))
    ((with_reducible first | apply q_retR | apply q_retN); exact rl)
    rfl

/-- The string of a roll. -/
def fmtD (n : List UInt8) (p o : Int) : List UInt8 := n ++ 32 :: (Lib.itoa p ++ 32 :: Lib.itoa o)
theorem fmtD_join (n : List UInt8) (p o : Int) : Lib.join [n, Lib.itoa p, Lib.itoa o] [32] = fmtD n p o := by
  rw [Lib.join_cons]
  unfold Lib.joinTail fmtD
  simp
theorem fmtD_len {n : List UInt8} {p o : Int} (hp : I64 p) (ho : I64 o) : (fmtD n p o).length ≤ n.length + 42 := by
  have h1 := itoa_len hp
  have h2 := itoa_len ho
  unfold fmtD
  simp
  omega
theorem formatDrum_A (n : List UInt8) (p o : Int) (hn : n.length ≤ 1000000) (hp : I64 p) (ho : I64 o) : AC Tryz.prog 6 [dT n p o] (T8 (fmtD n p o)) := by
  have h1 := itoa_A p hp
  have h2 := itoa_A o ho
  have hl := fmtD_len (n := n) hp ho
  have h3 := join_A [n, Lib.itoa p, Lib.itoa o] [32] (show 3 ≤ 1000000 by decide) (by rw [fmtD_join]; omega)
  rw [fmtD_join] at h3
  refine ac_body Tryz.func6 rfl (by kernel_rfl) fun w0 ok => ?_; show AWp _ (ctx0 w0 ok _) _ (ARet _ _ _) (entry _)
  (repeat' (first | (with_reducible first | intro hg | refine mv (by constructor) ?_) | ((with_reducible first | refine zR ?_ ?_ | refine zW mixed ?_ ?_); exact kr) | ((with_reducible apply zK); exact rfl; exact tf) | ((with_reducible apply zCD); exact rfl) | ((with_reducible apply zCN); exact rfl) | ((with_reducible apply zC); exact rfl) | ((with_reducible refine zX ?_ ?_); exact rfl) | ((with_reducible refine zE (And.intro ?_ ?_)); exact kr) | (with_reducible refine zE ?_) | ((with_reducible apply zP); (first | exact o_buildSlD rfl (by decide) rfl | exact dp | exact oc rfl (h1) | exact oc rfl (h2) | exact oc rfl (h3))) | ((with_reducible apply zN); exact dn) | ((with_reducible apply zA); exact da) | ((with_reducible apply zS); exact ds) | ((with_reducible apply zY); exact rfl; exact rfl; exact tf) | ((with_reducible apply zG); exact rfl; exact rfl; exact tf) | ((with_reducible apply zU); exact rfl; exact rfl) | ((with_reducible apply zD); exact rfl; exact rfl) | ((with_reducible apply zB); exact rfl; exact rfl)))
  ((with_reducible first | apply q_retR | apply q_retN); exact rl)
  rfl
theorem refFormatDrum_A (n : List UInt8) (p o : Int) (hn : n.length ≤ 1000000) (hp : I64 p) (ho : I64 o) : AC Tryz.prog 9 [dT n p o] (T8 (fmtD n p o)) := by
  have h1 := decimal_A p hp
  have h2 := decimal_A o ho
  have l1 := itoa_len hp
  have l2 := itoa_len ho
  have e : fmtD n p o = n ++ [32] ++ Lib.itoa p ++ [32] ++ Lib.itoa o := by unfold fmtD; simp
  rw [e]
  refine ac_body Tryz.func9 rfl (by kernel_rfl) fun w0 ok => ?_; show AWp _ (ctx0 w0 ok _) _ (ARet _ _ _) (entry _)
  (repeat' (first | (with_reducible first | intro hg | refine mv (by constructor) ?_) | ((with_reducible first | refine zR ?_ ?_ | refine zW mixed ?_ ?_); exact kr) | ((with_reducible apply zK); exact rfl; exact tf) | ((with_reducible apply zCD); exact rfl) | ((with_reducible apply zCN); exact rfl) | ((with_reducible apply zC); exact rfl) | ((with_reducible refine zX ?_ ?_); exact rfl) | ((with_reducible refine zE (And.intro ?_ ?_)); exact kr) | (with_reducible refine zE ?_) | ((with_reducible apply zP); (first | exact o_addT rfl rfl (by (try simp) <;> omega) (by (try simp) <;> omega) | exact dp | exact oc rfl (h1) | exact oc rfl (h2))) | ((with_reducible apply zN); exact dn) | ((with_reducible apply zA); exact da) | ((with_reducible apply zS); exact ds) | ((with_reducible apply zY); exact rfl; exact rfl; exact tf) | ((with_reducible apply zG); exact rfl; exact rfl; exact tf) | ((with_reducible apply zU); exact rfl; exact rfl) | ((with_reducible apply zD); exact rfl; exact rfl) | ((with_reducible apply zB); exact rfl; exact rfl)))
  ((with_reducible first | apply q_retR | apply q_retN); exact rl)
  rfl
/-- The roll of a string, and the error. -/
def prsD (l : List UInt8) : (List UInt8 × Int × Int) × Int := match cutA 32 [] l with
  | [a, b, c] => bif a.isEmpty then (([], 0, 0), 7) else match natN b, natN c with
    | some p, some o => bif drumErr ⟨a.toArray⟩ p o == 0 then ((a, p, o), 0) else (([], 0, 0), drumErr ⟨a.toArray⟩ p o)
    | _, _ => (([], 0, 0), 7)
  | _ => (([], 0, 0), 7)
abbrev dR (x : List UInt8 × Int × Int) : DV := dT x.1 x.2.1 x.2.2
theorem prsD_len {l : List UInt8} (h : (cutA 32 [] l).length ≠ 3) : prsD l = (([], 0, 0), 7) := by
  unfold prsD
  split
  · rename_i a b c e; rw [e] at h; exact absurd rfl h
  · rfl
theorem prsD_three {l a b c : List UInt8} (e : cutA 32 [] l = [a, b, c]) : prsD l = bif a.isEmpty then (([], 0, 0), 7) else match natN b, natN c with
    | some p, some o => bif drumErr ⟨a.toArray⟩ p o == 0 then ((a, p, o), 0) else (([], 0, 0), drumErr ⟨a.toArray⟩ p o)
    | _, _ => (([], 0, 0), 7) := by
  unfold prsD
  rw [e]
theorem three_of {ps : List (List UInt8)} (h : ps.length = 3) : ∃ a b c, ps = [a, b, c] := by
  match ps, h with
  | [a, b, c], _ => exact ⟨a, b, c, rfl⟩
theorem parseDrum_A (l : List UInt8) (hl : l.length ≤ 1000000) : AC Tryz.prog 7 [T8 l] (.tuple [dR (prsD l).1, I (prsD l).2]) := by
  have hs := split_A l 32 hl
  have hmem := cutA_mem 32 l []
  by_cases h3 : (cutA 32 [] l).length = 3
  rotate_left
  · rw [prsD_len h3]
    have hpos := cutA_pos 32 l []
    generalize cutA 32 [] l = ps at *
    have h3' : ¬ (ps.length : Int) = 3 := by omega
    refine ac_body Tryz.func7 rfl (by kernel_rfl) fun w0 ok => ?_; show AWp _ (ctx0 w0 ok _) _ (ARet _ _ _) (entry _)
    (repeat' (first | (with_reducible first | intro hg | refine mv (by constructor) ?_) | ((with_reducible first | refine zR ?_ ?_ | refine zW mixed ?_ ?_); exact kr) | ((with_reducible apply zK); exact rfl; exact tf) | ((with_reducible apply zCD); exact rfl) | ((with_reducible apply zCN); exact rfl) | ((with_reducible apply zC); exact rfl) | ((with_reducible refine zX ?_ ?_); exact rfl) | ((with_reducible refine zE (And.intro ?_ ?_)); exact kr) | (with_reducible refine zE ?_) | ((with_reducible apply zP); (first | exact dp | exact oc rfl (hs))) | ((with_reducible apply zN); exact dn) | ((with_reducible apply zA); exact da) | ((with_reducible apply zS); exact ds) | ((with_reducible apply zY); exact rfl; exact rfl; exact tf) | ((with_reducible apply zG); exact rfl; exact rfl; exact tf) | ((with_reducible apply zU); exact rfl; exact rfl) | ((with_reducible apply zD); exact rfl; exact rfl) | ((with_reducible apply zB); exact rfl; exact rfl)))
    ((with_reducible first | apply q_retR | apply q_retN); exact rl)
    rfl
  obtain ⟨a, b, c, e⟩ := three_of h3
  rw [prsD_three e]
  rw [e] at hs hmem
  have ha := hmem a (by simp)
  have hb := hmem b (by simp)
  have hc := hmem c (by simp)
  simp only [List.length_nil, Nat.zero_add] at ha hb hc
  have nb := numR_A b (by omega)
  have nc := numR_A c (by omega)
  have ib := nOf_i64 b
  have hck := checkDrum_A ⟨a.toArray⟩ (nOf b) (nOf c) (by rw [T8_size]; omega) ib
  have e0 : ∀ {l : List UInt8}, ¬ l = [] → l.isEmpty = false := fun h => by simpa using h
  by_cases hae : a = []
  · subst hae
    refine ac_body Tryz.func7 rfl (by kernel_rfl) fun w0 ok => ?_; show AWp _ (ctx0 w0 ok _) _ (ARet _ _ _) (entry _)
    (repeat' (first | (with_reducible first | intro hg | refine mv (by constructor) ?_) | ((with_reducible first | refine zR ?_ ?_ | refine zW mixed ?_ ?_); exact kr) | ((with_reducible apply zK); exact rfl; exact tf) | ((with_reducible apply zCD); exact rfl) | ((with_reducible apply zCN); exact rfl) | ((with_reducible apply zC); exact rfl) | ((with_reducible refine zX ?_ ?_); exact rfl) | ((with_reducible refine zE (And.intro ?_ ?_)); exact kr) | (with_reducible refine zE ?_) | ((with_reducible apply zP); (first | exact o_indexI (j := 0) (xs := [[], b, c]) (f := T8) rfl rfl (by show 0 < 3; decide) rfl | exact o_eqlT rfl rfl | exact dp | exact oc rfl (hs))) | ((with_reducible apply zN); exact dn) | ((with_reducible apply zA); exact da) | ((with_reducible apply zS); exact ds) | ((with_reducible apply zY); exact rfl; exact rfl; exact tf) | ((with_reducible apply zG); exact rfl; exact rfl; exact tf) | ((with_reducible apply zU); exact rfl; exact rfl) | ((with_reducible apply zD); exact rfl; exact rfl) | ((with_reducible apply zB); exact rfl; exact rfl)))
    ((with_reducible first | apply q_retR | apply q_retN); exact rl)
    rfl
  rw [e0 hae]
  cases nb2 : natN b with
  | none =>
    rw [nb2] at nb
    refine ac_body Tryz.func7 rfl (by kernel_rfl) fun w0 ok => ?_; show AWp _ (ctx0 w0 ok _) _ (ARet _ _ _) (entry _)
    (repeat' (first | (with_reducible first | intro hg | refine mv (by constructor) ?_) | ((with_reducible first | refine zR ?_ ?_ | refine zW mixed ?_ ?_); exact kr) | ((with_reducible apply zK); exact rfl; exact tf) | ((with_reducible apply zCD); exact rfl) | ((with_reducible apply zCN); exact rfl) | ((with_reducible apply zC); exact rfl) | ((with_reducible refine zX ?_ ?_); exact rfl) | ((with_reducible refine zE (And.intro ?_ ?_)); exact kr) | (with_reducible refine zE ?_) | ((with_reducible apply zP); (first | exact o_indexI (j := 0) (xs := [a, b, c]) (f := T8) rfl rfl (by show 0 < 3; decide) rfl | exact o_indexI (j := 1) (xs := [a, b, c]) (f := T8) rfl rfl (by show 1 < 3; decide) rfl | exact o_indexI (j := 2) (xs := [a, b, c]) (f := T8) rfl rfl (by show 2 < 3; decide) rfl | exact o_eqlT rfl rfl | exact o_buildSlD rfl (by decide) rfl | exact dp | exact oc rfl (hs) | exact oc rfl (nb) | exact oc rfl (nc) | exact oc rfl (hck) | exact oc rfl (unless_A _ _) | exact oc rfl (first2_A _ _))) | ((with_reducible apply zN); exact dn) | ((with_reducible apply zA); exact da) | ((with_reducible apply zS); exact ds) | ((with_reducible apply zY); exact rfl; exact rfl; exact tf) | ((with_reducible apply zG); exact rfl; exact rfl; exact tf) | ((with_reducible apply zU); exact rfl; exact rfl) | ((with_reducible apply zD); exact rfl; exact rfl) | ((with_reducible apply zB); exact rfl; exact rfl)))
    ((with_reducible first | apply q_retR | apply q_retN); exact rl)
    rfl
  | some p =>
    cases nc2 : natN c with
    | none =>
      rw [nb2] at nb
      rw [nc2] at nc
      refine ac_body Tryz.func7 rfl (by kernel_rfl) fun w0 ok => ?_; show AWp _ (ctx0 w0 ok _) _ (ARet _ _ _) (entry _)
      (repeat' (first | (with_reducible first | intro hg | refine mv (by constructor) ?_) | ((with_reducible first | refine zR ?_ ?_ | refine zW mixed ?_ ?_); exact kr) | ((with_reducible apply zK); exact rfl; exact tf) | ((with_reducible apply zCD); exact rfl) | ((with_reducible apply zCN); exact rfl) | ((with_reducible apply zC); exact rfl) | ((with_reducible refine zX ?_ ?_); exact rfl) | ((with_reducible refine zE (And.intro ?_ ?_)); exact kr) | (with_reducible refine zE ?_) | ((with_reducible apply zP); (first | exact o_indexI (j := 0) (xs := [a, b, c]) (f := T8) rfl rfl (by show 0 < 3; decide) rfl | exact o_indexI (j := 1) (xs := [a, b, c]) (f := T8) rfl rfl (by show 1 < 3; decide) rfl | exact o_indexI (j := 2) (xs := [a, b, c]) (f := T8) rfl rfl (by show 2 < 3; decide) rfl | exact o_eqlT rfl rfl | exact o_buildSlD rfl (by decide) rfl | exact dp | exact oc rfl (hs) | exact oc rfl (nb) | exact oc rfl (nc) | exact oc rfl (hck) | exact oc rfl (unless_A _ _) | exact oc rfl (first2_A _ _))) | ((with_reducible apply zN); exact dn) | ((with_reducible apply zA); exact da) | ((with_reducible apply zS); exact ds) | ((with_reducible apply zY); exact rfl; exact rfl; exact tf) | ((with_reducible apply zG); exact rfl; exact rfl; exact tf) | ((with_reducible apply zU); exact rfl; exact rfl) | ((with_reducible apply zD); exact rfl; exact rfl) | ((with_reducible apply zB); exact rfl; exact rfl)))
      ((with_reducible first | apply q_retR | apply q_retN); exact rl)
      rfl
    | some o =>
      have hp := natN_some nb2
      have ho := natN_some nc2
      have ep : nOf b = p := by unfold nOf; rw [hp.2.2.2.2]
      have eo : nOf c = o := by unfold nOf; rw [ho.2.2.2.2]
      rw [nb2, ep] at nb
      rw [nc2, eo] at nc
      rw [ep, eo] at hck
      show AC _ _ _ (.tuple [dR (bif drumErr ⟨a.toArray⟩ p o == 0 then ((a, p, o), 0) else (([], 0, 0), drumErr ⟨a.toArray⟩ p o)).1, I (bif drumErr ⟨a.toArray⟩ p o == 0 then ((a, p, o), 0) else (([], 0, 0), drumErr ⟨a.toArray⟩ p o)).2])
      generalize drumErr ⟨a.toArray⟩ p o = u at *
      have hfs : fst0 [unl true 7, u] = u := by
        show fst0 [0, u] = u
        rw [fst0_zero, fst0_one]
      by_cases hu : u = 0
      · subst hu
        refine ac_body Tryz.func7 rfl (by kernel_rfl) fun w0 ok => ?_; show AWp _ (ctx0 w0 ok _) _ (ARet _ _ _) (entry _)
        (repeat' (first | (with_reducible first | intro hg | refine mv (by constructor) ?_) | ((with_reducible first | refine zR ?_ ?_ | refine zW mixed ?_ ?_); exact kr) | ((with_reducible apply zK); exact rfl; exact tf) | ((with_reducible apply zCD); exact rfl) | ((with_reducible apply zCN); exact rfl) | ((with_reducible apply zC); exact rfl) | ((with_reducible refine zX ?_ ?_); exact rfl) | ((with_reducible refine zE (And.intro ?_ ?_)); exact kr) | (with_reducible refine zE ?_) | ((with_reducible apply zP); (first | exact o_indexI (j := 0) (xs := [a, b, c]) (f := T8) rfl rfl (by show 0 < 3; decide) rfl | exact o_indexI (j := 1) (xs := [a, b, c]) (f := T8) rfl rfl (by show 1 < 3; decide) rfl | exact o_indexI (j := 2) (xs := [a, b, c]) (f := T8) rfl rfl (by show 2 < 3; decide) rfl | exact o_eqlT rfl rfl | exact o_buildSlD rfl (by decide) rfl | exact dp | exact oc rfl (hs) | exact oc rfl (nb) | exact oc rfl (nc) | exact oc rfl (hck) | exact oc rfl (unless_A _ _) | exact oc rfl (first2_A _ _))) | ((with_reducible apply zN); exact dn) | ((with_reducible apply zA); exact da) | ((with_reducible apply zS); exact ds) | ((with_reducible apply zY); exact rfl; exact rfl; exact tf) | ((with_reducible apply zG); exact rfl; exact rfl; exact tf) | ((with_reducible apply zU); exact rfl; exact rfl) | ((with_reducible apply zD); exact rfl; exact rfl) | ((with_reducible apply zB); exact rfl; exact rfl)))
        ((with_reducible first | apply q_retR | apply q_retN); exact rl)
        rfl
      · have hb0 : (u == 0) = false := beq_eq_false_iff_ne.2 hu
        rw [hb0]
        have hfu : fst0 [unl true 7, u] ≠ 0 := by rw [hfs]; exact hu
        refine ac_body Tryz.func7 rfl (by kernel_rfl) fun w0 ok => ?_; show AWp _ (ctx0 w0 ok _) _ (ARet _ _ _) (entry _)
        (repeat' (first | (with_reducible first | intro hg | refine mv (by constructor) ?_) | ((with_reducible first | refine zR ?_ ?_ | refine zW mixed ?_ ?_); exact kr) | ((with_reducible apply zK); exact rfl; exact tf) | ((with_reducible apply zCD); exact rfl) | ((with_reducible apply zCN); exact rfl) | ((with_reducible apply zC); exact rfl) | ((with_reducible refine zX ?_ ?_); exact rfl) | ((with_reducible refine zE (And.intro ?_ ?_)); exact kr) | (with_reducible refine zE ?_) | ((with_reducible apply zP); (first | exact o_indexI (j := 0) (xs := [a, b, c]) (f := T8) rfl rfl (by show 0 < 3; decide) rfl | exact o_indexI (j := 1) (xs := [a, b, c]) (f := T8) rfl rfl (by show 1 < 3; decide) rfl | exact o_indexI (j := 2) (xs := [a, b, c]) (f := T8) rfl rfl (by show 2 < 3; decide) rfl | exact o_eqlT rfl rfl | exact o_buildSlD rfl (by decide) rfl | exact dp | exact oc rfl (hs) | exact oc rfl (nb) | exact oc rfl (nc) | exact oc rfl (hck) | exact oc rfl (unless_A _ _) | exact oc rfl (first2_A _ _))) | ((with_reducible apply zN); exact dn) | ((with_reducible apply zA); exact da) | ((with_reducible apply zS); exact ds) | ((with_reducible apply zY); exact rfl; exact rfl; exact tf) | ((with_reducible apply zG); exact rfl; exact rfl; exact tf) | ((with_reducible apply zU); exact rfl; exact rfl) | ((with_reducible apply zD); exact rfl; exact rfl) | ((with_reducible apply zB); exact rfl; exact rfl)))
        ((with_reducible first | apply q_retR | apply q_retN); exact rl)
        exact congrArg (fun x => DV.tuple [dR ([], 0, 0), I x]) hfs.symm

end Go.Proofs.YtocnbbjcfgfgdaaGreatDoor
