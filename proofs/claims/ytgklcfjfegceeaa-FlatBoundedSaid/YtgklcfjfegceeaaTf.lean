/- The law FlatBest: what it answers. -/
import Derived.Test.YtgklcfjfegceeaaTe
import Derived.Test.YtgklcfjfegceeaaTa
set_option linter.unusedVariables false
set_option linter.unusedSimpArgs false
namespace Go.Proofs.Ytgklcfjfegceeaa
open Go.RowKit
set_option maxRecDepth 20000
set_option maxHeartbeats 8000000

theorem bstK_one (f : List Int → Int) {L : List (List Int)} (h : 0 < L.length) : bstK f L 1 = some (L.getD 0 [], f (L.getD 0 [])) := by
  rw [bstK_succ f h rfl]; rfl
theorem bst_some (f : List Int → Int) (b : List Int) (n : Int) (N : List Int) : bst f (some (b, n)) N = if f N < n then some (N, f N) else some (b, n) := by
  show (bif decide (f N < n) then _ else _) = _
  by_cases h : f N < n
  · rw [decide_eq_true h, if_pos h]; rfl
  · rw [decide_eq_false h, if_neg h]; rfl
theorem getL_mem {L : List (List Int)} {k : Nat} (h : k < L.length) : L.getD k [] ∈ L := by
  rw [List.getD_eq_getElem?_getD, List.getElem?_eq_getElem h]; exact List.getElem_mem h
/-- The best of some settings is one of them. -/
theorem bstK_mem (f : List Int → Int) (L : List (List Int)) : ∀ k, k ≤ L.length → ∀ b n, bstK f L k = some (b, n) → b ∈ L ∧ n = f b ∧ ∀ i, i < k → n ≤ f (L.getD i [])
  | 0, _, b, n, h => by simp [bstK] at h
  | k + 1, hk, b, n, h => by
    rw [bstK_succ f (by omega) rfl] at h
    have hm := getL_mem (L := L) (k := k) (by omega)
    cases hy : bstK f L k with
    | none =>
      rw [hy] at h
      have h : some (L.getD k [], f (L.getD k [])) = some (b, n) := h
      injection h with h; injection h with h1 h2
      subst h1 h2
      refine ⟨hm, rfl, fun i hi => ?_⟩
      have : k = 0 := by
        rcases k with _ | k
        · rfl
        · exfalso
          rw [bstK_succ f (by omega) rfl] at hy
          cases h3 : bstK f L k with
          | none => rw [h3] at hy; cases hy
          | some y =>
            obtain ⟨y1, y2⟩ := y
            rw [h3, bst_some] at hy
            split at hy <;> cases hy
      rw [show i = k by omega]
      exact Int.le_refl _
    | some y =>
      obtain ⟨y1, y2⟩ := y
      obtain ⟨h1, h2, h3⟩ := bstK_mem f L k (by omega) y1 y2 hy
      rw [hy, bst_some] at h
      split at h
      · rename_i hlt
        injection h with h; injection h with h4 h5
        subst h4 h5
        refine ⟨hm, rfl, fun i hi => ?_⟩
        by_cases e : i = k
        · rw [e]; exact Int.le_refl _
        · have := h3 i (by omega); omega
      · rename_i hlt
        injection h with h; injection h with h4 h5
        subst h4 h5
        refine ⟨h1, h2, fun i hi => ?_⟩
        by_cases e : i = k
        · rw [e]; omega
        · exact h3 i (by omega)
theorem bstK_is (f : List Int → Int) {L : List (List Int)} {k : Nat} (hk : 0 < k) (hL : k ≤ L.length) : ∃ b n, bstK f L k = some (b, n) := by
  obtain ⟨i, rfl⟩ : ∃ i, k = i + 1 := ⟨k - 1, by omega⟩
  rw [bstK_succ f (by omega) rfl]
  cases bstK f L i with
  | none => exact ⟨_, _, rfl⟩
  | some y =>
    obtain ⟨y1, y2⟩ := y
    rw [bst_some]
    split <;> exact ⟨_, _, rfl⟩
/-- The best settings and their maximum. -/
def bestS (T : List Int) (A : List Act3) : List Int × Int := ((bstK (maxP T A) (allS A) (allS A).length).getD ([], 0))
theorem bestS_eq {T : List Int} {A : List Act3} (h : RulOk T A) : bstK (maxP T A) (allS A) (allS A).length = some (bestS T A) := by
  obtain ⟨b, n, hb⟩ := bstK_is (maxP T A) (L := allS A) (allS_ok h).chain.pos (Nat.le_refl _)
  unfold bestS; rw [hb]; rfl
theorem bestS_ok {T : List Int} {A : List Act3} (h : RulOk T A) : (bestS T A).1 ∈ allS A ∧ (bestS T A).2 = maxP T A (bestS T A).1 ∧ ∀ l ∈ allS A, (bestS T A).2 ≤ maxP T A l := by
  obtain ⟨h1, h2, h3⟩ := bstK_mem (maxP T A) (allS A) _ (Nat.le_refl _) _ _ (bestS_eq h)
  refine ⟨h1, h2, fun l hl => ?_⟩
  obtain ⟨i, hi, rfl⟩ := List.mem_iff_getElem.1 hl
  have := h3 i hi
  rwa [List.getD_eq_getElem?_getD, List.getElem?_eq_getElem hi] at this
theorem best_ok (T : List Int) (A : List Act3) (h : RulOk T A) (he : rulE T A = (0, 0)) : AC Try.prog 19 [rulV T A] (.tuple [isl (bestS T A).1, I (bestS T A).2, I 0]) := by
  have h1 := best_A T A (allS A) h (allS_ok h) he
  rw [bestS_eq h] at h1
  exact h1
theorem best_err (T : List Int) (A : List Act3) (hl : LenOk T A) (he : (rulE T A).2 ≠ 0) : AC Try.prog 19 [rulV T A] (.tuple [nilV, I 0, I (rulE T A).2]) := by
  have h1 := open_A T A hl
  refine ac_body Try.func19 rfl (by kernel_rfl) fun w0 ok => ?_; show AWp _ (ctx0 w0 ok _) _ (ARet _ _ _) (entry _)
  (repeat' (first | (with_reducible first | intro hg | refine awp_seq ?_ | refine q_seq ?_ | refine q_blk ?_ | refine awp_block ?_ | refine awp_skip ?_ | refine awp_ret ?_ | refine awp_exit ?_ | refine q_seqE ?_ | refine q_seqR ?_ | refine q_blkR ?_ | refine q_blkE ?_) | ((with_reducible refine awp_region ?_ ?_); (focus exact kr)) | ((with_reducible refine awp_region_any mixed ?_ ?_); (focus exact kr)) | ((with_reducible apply awp_condT); (focus exact rfl); (focus exact tt)) | ((with_reducible apply awp_condF); (focus exact rfl); (focus exact ff)) | ((with_reducible apply awp_condD); (focus exact rfl)) | ((with_reducible apply awp_condN); (focus exact rfl)) | ((with_reducible apply awp_cond); (focus exact rfl)) | ((with_reducible refine q_blkX ?_ ?_); (focus exact rfl)) | ((with_reducible refine r_nil (And.intro ?_ ?_)); (focus exact kr)) | (with_reducible refine r_nil ?_) | ((with_reducible apply r_put); (focus (first | exact dp | exact oc rfl (h1)))) | ((with_reducible apply r_new); (focus exact dn)) | ((with_reducible apply r_app); (focus exact da)) | ((with_reducible apply r_set); (focus exact ds)) | ((with_reducible apply r_putY); (focus exact rfl); (focus exact rfl); (focus exact tf); (focus (first | exact dp | exact oc rfl (h1)))) | ((with_reducible apply r_newY); (focus exact rfl); (focus exact rfl); (focus exact tf); (focus exact dn)) | ((with_reducible apply r_noT); (focus exact rfl); (focus exact rfl); (focus exact ff)) | ((with_reducible apply r_noF); (focus exact rfl); (focus exact rfl); (focus exact tt)) | ((with_reducible apply r_noU); (focus exact rfl); (focus exact rfl)) | ((with_reducible apply r_splitD); (focus exact rfl); (focus exact rfl)) | ((with_reducible apply r_split); (focus exact rfl); (focus exact rfl))))
  ((with_reducible first | apply q_retR | apply q_retN); (focus exact rl))
  rfl
theorem refBest_A (T : List Int) (A : List Act3) (h : RulOk T A) : AC Try.prog 24 [rulV T A] (.tuple [isl (bestS T A).1, I (bestS T A).2]) := by
  have ha := refAll_A T A h
  have hok := allS_ok h
  have hpos := hok.chain.pos
  have hfin := bestS_eq h
  have hlen : (allS A).length ≤ 9261 := by
    rw [← allTo_all]
    have h1 := allTo_len h A.length (Nat.le_refl _)
    have h2 : 21 ^ A.length ≤ 21 ^ 3 := Nat.pow_le_pow_right (by decide) h.a3
    omega
  have hmx : ∀ i, i < (allS A).length → AC Try.prog 64 [rulV T A, isl ((allS A).getD i [])] (I (maxP T A ((allS A).getD i []))) := fun i hi => refMaximum_A T A _ h (hok.ok _ (getL_mem hi))
  generalize allS A = L at *
  have hm0 := hmx 0 hpos
  refine ac_body Try.func24 rfl (by kernel_rfl) fun w0 ok => ?_; show AWp _ (ctx0 w0 ok _) _ (ARet _ _ _) (entry _)
  (repeat' (first | (with_reducible first | intro hg | refine awp_seq ?_ | refine q_seq ?_ | refine q_blk ?_ | refine awp_block ?_ | refine awp_skip ?_ | refine awp_ret ?_ | refine awp_exit ?_ | refine q_seqE ?_ | refine q_seqR ?_ | refine q_blkR ?_ | refine q_blkE ?_) | ((with_reducible refine awp_region ?_ ?_); (focus exact kr)) | ((with_reducible refine awp_region_any mixed ?_ ?_); (focus exact kr)) | ((with_reducible apply awp_condT); (focus exact rfl); (focus exact tt)) | ((with_reducible apply awp_condF); (focus exact rfl); (focus exact ff)) | ((with_reducible apply awp_condD); (focus exact rfl)) | ((with_reducible apply awp_condN); (focus exact rfl)) | ((with_reducible apply awp_cond); (focus exact rfl)) | ((with_reducible refine q_blkX ?_ ?_); (focus exact rfl)) | ((with_reducible refine r_nil (And.intro ?_ ?_)); (focus exact kr)) | (with_reducible refine r_nil ?_) | ((with_reducible apply r_put); (focus (first | exact o_loadM [] rfl hpos | exact o_indexI (j := 0) (xs := L) (f := isl) rfl rfl hpos rfl | exact dp | exact oc rfl (ha) | exact oc rfl (hm0)))) | ((with_reducible apply r_new); (focus exact dn)) | ((with_reducible apply r_app); (focus exact da)) | ((with_reducible apply r_set); (focus exact ds)) | ((with_reducible apply r_putY); (focus exact rfl); (focus exact rfl); (focus exact tf); (focus (first | exact o_loadM [] rfl hpos | exact o_indexI (j := 0) (xs := L) (f := isl) rfl rfl hpos rfl | exact dp | exact oc rfl (ha) | exact oc rfl (hm0)))) | ((with_reducible apply r_newY); (focus exact rfl); (focus exact rfl); (focus exact tf); (focus exact dn)) | ((with_reducible apply r_noT); (focus exact rfl); (focus exact rfl); (focus exact ff)) | ((with_reducible apply r_noF); (focus exact rfl); (focus exact rfl); (focus exact tt)) | ((with_reducible apply r_noU); (focus exact rfl); (focus exact rfl)) | ((with_reducible apply r_splitD); (focus exact rfl); (focus exact rfl)) | ((with_reducible apply r_split); (focus exact rfl); (focus exact rfl))))
  refine awp_loopL3 (fun (i : Nat) (b : List Int) (n : Int) => [(1, .ptr 1 0), (4, .d (slV L)), (5, .d (isl b)), (6, .d (I n)), (7, .d (I i))]) (fun _ _ _ => [(1, ⟨25, rulC T A⟩)]) (fun i b n => i ≤ L.length ∧ bstK (maxP T A) L (max i 1) = some (b, n)) (fun i _ _ => L.length - i) 0 (L.getD 0 []) (maxP T A (L.getD 0 [])) ⟨Nat.zero_le _, bstK_one _ hpos⟩ (And.intro rfl (And.intro rfl (And.intro rfl (And.intro rfl (And.intro rfl trivial))))) (And.intro rfl trivial) fun i b n ⟨hi, hb⟩ => ?_
  by_cases hlt : i < L.length
  · have hmi := hmx i hlt
    have hnx : bstK (maxP T A) L (max (i + 1) 1) = if maxP T A (L.getD i []) < n then some (L.getD i [], maxP T A (L.getD i [])) else some (b, n) := by
      rw [Nat.max_eq_left (by omega), bstK_succ _ hlt rfl]
      rcases i with _ | i
      · rw [show max 0 1 = 1 from rfl, bstK_one _ hpos] at hb
        injection hb with hb; injection hb with h1 h2
        rw [if_neg (by rw [h2]; exact Int.lt_irrefl _), ← h1, ← h2]; rfl
      · rw [Nat.max_eq_left (by omega)] at hb
        rw [hb, bst_some]
    by_cases hlt2 : maxP T A (L.getD i []) < n
    · rw [if_pos hlt2] at hnx
      (repeat' (first | (with_reducible first | intro hg | refine awp_seq ?_ | refine q_seq ?_ | refine q_blk ?_ | refine awp_block ?_ | refine awp_skip ?_ | refine awp_ret ?_ | refine awp_exit ?_ | refine q_seqE ?_ | refine q_seqR ?_ | refine q_blkR ?_ | refine q_blkE ?_) | ((with_reducible refine awp_region ?_ ?_); (focus exact kr)) | ((with_reducible refine awp_region_any mixed ?_ ?_); (focus exact kr)) | ((with_reducible apply awp_condT); (focus exact rfl); (focus exact tt)) | ((with_reducible apply awp_condF); (focus exact rfl); (focus exact ff)) | ((with_reducible apply awp_condD); (focus exact rfl)) | ((with_reducible apply awp_condN); (focus exact rfl)) | ((with_reducible apply awp_cond); (focus exact rfl)) | ((with_reducible refine q_blkX ?_ ?_); (focus exact rfl)) | ((with_reducible refine r_nil (And.intro ?_ ?_)); (focus exact kr)) | (with_reducible refine r_nil ?_) | ((with_reducible apply r_put); (focus (first | exact o_loadM [] rfl hlt | exact o_indexI (j := i) (xs := L) (f := isl) rfl rfl hlt rfl | exact dp | exact oc rfl (hmi)))) | ((with_reducible apply r_new); (focus exact dn)) | ((with_reducible apply r_app); (focus exact da)) | ((with_reducible apply r_set); (focus exact ds)) | ((with_reducible apply r_putY); (focus exact rfl); (focus exact rfl); (focus exact tf); (focus (first | exact o_loadM [] rfl hlt | exact o_indexI (j := i) (xs := L) (f := isl) rfl rfl hlt rfl | exact dp | exact oc rfl (hmi)))) | ((with_reducible apply r_newY); (focus exact rfl); (focus exact rfl); (focus exact tf); (focus exact dn)) | ((with_reducible apply r_noT); (focus exact rfl); (focus exact rfl); (focus exact ff)) | ((with_reducible apply r_noF); (focus exact rfl); (focus exact rfl); (focus exact tt)) | ((with_reducible apply r_noU); (focus exact rfl); (focus exact rfl)) | ((with_reducible apply r_splitD); (focus exact rfl); (focus exact rfl)) | ((with_reducible apply r_split); (focus exact rfl); (focus exact rfl))))
      exact ⟨i + 1, _, _, ⟨hlt, hnx⟩, by omega, (And.intro rfl (And.intro rfl (And.intro rfl (And.intro rfl (And.intro rfl trivial))))), (And.intro rfl trivial)⟩
    · rw [if_neg hlt2] at hnx
      (repeat' (first | (with_reducible first | intro hg | refine awp_seq ?_ | refine q_seq ?_ | refine q_blk ?_ | refine awp_block ?_ | refine awp_skip ?_ | refine awp_ret ?_ | refine awp_exit ?_ | refine q_seqE ?_ | refine q_seqR ?_ | refine q_blkR ?_ | refine q_blkE ?_) | ((with_reducible refine awp_region ?_ ?_); (focus exact kr)) | ((with_reducible refine awp_region_any mixed ?_ ?_); (focus exact kr)) | ((with_reducible apply awp_condT); (focus exact rfl); (focus exact tt)) | ((with_reducible apply awp_condF); (focus exact rfl); (focus exact ff)) | ((with_reducible apply awp_condD); (focus exact rfl)) | ((with_reducible apply awp_condN); (focus exact rfl)) | ((with_reducible apply awp_cond); (focus exact rfl)) | ((with_reducible refine q_blkX ?_ ?_); (focus exact rfl)) | ((with_reducible refine r_nil (And.intro ?_ ?_)); (focus exact kr)) | (with_reducible refine r_nil ?_) | ((with_reducible apply r_put); (focus (first | exact o_loadM [] rfl hlt | exact o_indexI (j := i) (xs := L) (f := isl) rfl rfl hlt rfl | exact dp | exact oc rfl (hmi)))) | ((with_reducible apply r_new); (focus exact dn)) | ((with_reducible apply r_app); (focus exact da)) | ((with_reducible apply r_set); (focus exact ds)) | ((with_reducible apply r_putY); (focus exact rfl); (focus exact rfl); (focus exact tf); (focus (first | exact o_loadM [] rfl hlt | exact o_indexI (j := i) (xs := L) (f := isl) rfl rfl hlt rfl | exact dp | exact oc rfl (hmi)))) | ((with_reducible apply r_newY); (focus exact rfl); (focus exact rfl); (focus exact tf); (focus exact dn)) | ((with_reducible apply r_noT); (focus exact rfl); (focus exact rfl); (focus exact ff)) | ((with_reducible apply r_noF); (focus exact rfl); (focus exact rfl); (focus exact tt)) | ((with_reducible apply r_noU); (focus exact rfl); (focus exact rfl)) | ((with_reducible apply r_splitD); (focus exact rfl); (focus exact rfl)) | ((with_reducible apply r_split); (focus exact rfl); (focus exact rfl))))
      exact ⟨i + 1, _, _, ⟨hlt, hnx⟩, by omega, (And.intro rfl (And.intro rfl (And.intro rfl (And.intro rfl (And.intro rfl trivial))))), (And.intro rfl trivial)⟩
  · have hiL : max i 1 = L.length := by omega
    rw [hiL, hfin] at hb
    injection hb with hb
    rw [hb]
    (repeat' (first | (with_reducible first | intro hg | refine awp_seq ?_ | refine q_seq ?_ | refine q_blk ?_ | refine awp_block ?_ | refine awp_skip ?_ | refine awp_ret ?_ | refine awp_exit ?_ | refine q_seqE ?_ | refine q_seqR ?_ | refine q_blkR ?_ | refine q_blkE ?_) | ((with_reducible refine awp_region ?_ ?_); (focus exact kr)) | ((with_reducible refine awp_region_any mixed ?_ ?_); (focus exact kr)) | ((with_reducible apply awp_condT); (focus exact rfl); (focus exact tt)) | ((with_reducible apply awp_condF); (focus exact rfl); (focus exact ff)) | ((with_reducible apply awp_condD); (focus exact rfl)) | ((with_reducible apply awp_condN); (focus exact rfl)) | ((with_reducible apply awp_cond); (focus exact rfl)) | ((with_reducible refine q_blkX ?_ ?_); (focus exact rfl)) | ((with_reducible refine r_nil (And.intro ?_ ?_)); (focus exact kr)) | (with_reducible refine r_nil ?_) | ((with_reducible apply r_put); (focus exact dp)) | ((with_reducible apply r_new); (focus exact dn)) | ((with_reducible apply r_app); (focus exact da)) | ((with_reducible apply r_set); (focus exact ds)) | ((with_reducible apply r_putY); (focus exact rfl); (focus exact rfl); (focus exact tf); (focus exact dp)) | ((with_reducible apply r_newY); (focus exact rfl); (focus exact rfl); (focus exact tf); (focus exact dn)) | ((with_reducible apply r_noT); (focus exact rfl); (focus exact rfl); (focus exact ff)) | ((with_reducible apply r_noF); (focus exact rfl); (focus exact rfl); (focus exact tt)) | ((with_reducible apply r_noU); (focus exact rfl); (focus exact rfl)) | ((with_reducible apply r_splitD); (focus exact rfl); (focus exact rfl)) | ((with_reducible apply r_split); (focus exact rfl); (focus exact rfl))))
    ((with_reducible first | apply q_retR | apply q_retN); (focus exact rl))
    rfl

/-! The bound of weights. -/
def outW (w : List Int) : Bool := w.any fun x => !inR x (-1000) 1000
def nzW (w : List Int) : Bool := w.any fun x => !decide (x = 0)
/-- The error of rules and weights. -/
def bndE (e : Int) (T w : List Int) : Int := fst0 [e, unl (decide ((w.length : Int) = T.length)) 10, unl (!outW w) 2, unl (nzW w) 11]
theorem boundOf_err (T : List Int) (A : List Act3) (w : List Int) (hl : LenOk T A) (hm : w.length ≤ 140737488355328) (he : bndE (rulE T A).2 T w ≠ 0) : AC Try.prog 21 [rulV T A, isl w] (.tuple [F2 (0, 0), I (bndE (rulE T A).2 T w)]) := by
  have hck := checkRules_A T A hl
  have hze := all_A 83 (EntI.eq (P := Try.prog) (f := 83)) .val _ w 11 hm (fun x _ => isZero_A x)
  have hsz := sized_A 1000
  have hal := allSized_A w 2 1000 ⟨by decide, by decide⟩ hm
  have he' : fst0 [(rulE T A).2, unl (decide ((w.length : Int) = T.length)) 10, unl (!(w.any fun x => !inR x (-1000) 1000)) 2, unl (nzW w) 11] ≠ 0 := he
  have hr : bndE (rulE T A).2 T w = fst0 [(rulE T A).2, unl (decide ((w.length : Int) = T.length)) 10, unl (!(w.any fun x => !inR x (-1000) 1000)) 2, unl (nzW w) 11] := rfl
  rw [hr]
  clear he hr
  have hq : nzW w = (w.any fun x => !decide (x = 0)) := rfl
  cases hn : nzW w
  all_goals
    rw [hn] at hq he'
    rw [← hq] at hze
    refine ac_body Try.func21 rfl (by kernel_rfl) fun w0 ok => ?_; show AWp _ (ctx0 w0 ok _) _ (ARet _ _ _) (entry _)
    (repeat' (first | (with_reducible first | intro hg | refine awp_seq ?_ | refine q_seq ?_ | refine q_blk ?_ | refine awp_block ?_ | refine awp_skip ?_ | refine awp_ret ?_ | refine awp_exit ?_ | refine q_seqE ?_ | refine q_seqR ?_ | refine q_blkR ?_ | refine q_blkE ?_) | ((with_reducible refine awp_region ?_ ?_); (focus exact kr)) | ((with_reducible refine awp_region_any mixed ?_ ?_); (focus exact kr)) | ((with_reducible apply awp_condT); (focus exact rfl); (focus exact tt)) | ((with_reducible apply awp_condF); (focus exact rfl); (focus exact ff)) | ((with_reducible apply awp_condD); (focus exact rfl)) | ((with_reducible apply awp_condN); (focus exact rfl)) | ((with_reducible apply awp_cond); (focus exact rfl)) | ((with_reducible refine q_blkX ?_ ?_); (focus exact rfl)) | ((with_reducible refine r_nil (And.intro ?_ ?_)); (focus exact kr)) | (with_reducible refine r_nil ?_) | ((with_reducible apply r_put); (focus (first | exact dp | exact oc rfl (hck) | exact oc rfl (hze) | exact oc rfl (hsz) | exact oc rfl (hal) | exact oc rfl (unless_A _ _) | exact oc rfl (first4_A _ _ _ _)))) | ((with_reducible apply r_new); (focus exact dn)) | ((with_reducible apply r_app); (focus exact da)) | ((with_reducible apply r_set); (focus exact ds)) | ((with_reducible apply r_putY); (focus exact rfl); (focus exact rfl); (focus exact tf); (focus (first | exact dp | exact oc rfl (hck) | exact oc rfl (hze) | exact oc rfl (hsz) | exact oc rfl (hal) | exact oc rfl (unless_A _ _) | exact oc rfl (first4_A _ _ _ _)))) | ((with_reducible apply r_newY); (focus exact rfl); (focus exact rfl); (focus exact tf); (focus exact dn)) | ((with_reducible apply r_noT); (focus exact rfl); (focus exact rfl); (focus exact ff)) | ((with_reducible apply r_noF); (focus exact rfl); (focus exact rfl); (focus exact tt)) | ((with_reducible apply r_noU); (focus exact rfl); (focus exact rfl)) | ((with_reducible apply r_splitD); (focus exact rfl); (focus exact rfl)) | ((with_reducible apply r_split); (focus exact rfl); (focus exact rfl))))
    ((with_reducible first | apply q_retR | apply q_retN); (focus exact rl))
    rfl
theorem denT_pos (w : List Int) : ∀ k, k ≤ w.length → 0 ≤ denT w k ∧ (denT w k = 0 ↔ ((w.take k).any fun x => !decide (x = 0)) = false)
  | 0, _ => by simp [denT]
  | k + 1, hk => by
    obtain ⟨h1, h2⟩ := denT_pos w k (by omega)
    have hs : denT w (k + 1) = denT w k + (nth w k).natAbs := rfl
    rw [hs, take_getD (by omega : k < w.length), List.any_append]
    refine ⟨by omega, ?_⟩
    rw [Bool.or_eq_false_iff, ← h2]
    simp only [List.any_cons, List.any_nil, Bool.or_false, Bool.not_eq_false', decide_eq_true_eq]
    omega
theorem denT_nz (w : List Int) : denT w w.length = 0 ↔ nzW w = false := by
  have := (denT_pos w w.length (Nat.le_refl _)).2
  rwa [List.take_length] at this
/-- The bound of weights of valid rules, or the error. -/
def bndR (T : List Int) (A : List Act3) (w : List Int) : (Int × Int) × Int := bif bndE 0 T w == 0 then bndW T A w else ((0, 0), bndE 0 T w)
theorem bndR_e {T : List Int} {A : List Act3} {w : List Int} {e : Int} (h : bndE 0 T w = e) (he : e ≠ 0) : bndR T A w = ((0, 0), e) := by
  unfold bndR; rw [h, show (e == 0) = false from beq_eq_false_iff_ne.2 he]; rfl
theorem bndR_0 {T : List Int} {A : List Act3} {w : List Int} (h : bndE 0 T w = 0) : bndR T A w = bndW T A w := by
  unfold bndR; rw [h]; rfl
theorem bndE_len {T w : List Int} (h : ¬ (w.length : Int) = T.length) : bndE 0 T w = 10 := by
  unfold bndE; rw [fst0_zero, fst0_stop (by decide) (decide_eq_false h)]
theorem bndE_out {T w : List Int} (h : (w.length : Int) = T.length) (h2 : outW w = true) : bndE 0 T w = 2 := by
  unfold bndE; rw [fst0_zero, fst0_skip (decide_eq_true h), fst0_stop (by decide) (by rw [h2]; rfl)]
theorem bndE_in {T w : List Int} (h : (w.length : Int) = T.length) (h2 : outW w = false) : bndE 0 T w = unl (nzW w) 11 := by
  unfold bndE; rw [fst0_zero, fst0_skip (decide_eq_true h), fst0_skip (by rw [h2]; rfl), fst0_one]
theorem outW_ok {w : List Int} (h : outW w = false) : ∀ x ∈ w, -1000 ≤ x ∧ x ≤ 1000 := by
  intro x hx
  unfold outW at h
  rw [List.any_eq_false] at h
  have := h x hx
  exact inR_iff.1 (by simpa using this)
theorem bndE_ok {T w : List Int} (h : bndE 0 T w = 0) : WgtOk T w ∧ 0 < denT w w.length ∧ nzW w = true := by
  by_cases h1 : (w.length : Int) = T.length
  · cases h2 : outW w
    · rw [bndE_in h1 h2] at h
      have h3 := unl_ok (by decide) h
      have h4 := denT_pos w w.length (Nat.le_refl _)
      refine ⟨⟨by omega, outW_ok h2⟩, ?_, h3⟩
      have h5 := mt (denT_nz w).1 (by rw [h3]; decide)
      omega
    · rw [bndE_out h1 h2] at h; cases h
  · rw [bndE_len h1] at h; cases h
theorem boundOf_A (T : List Int) (A : List Act3) (w : List Int) (h : RulOk T A) (hr : rulE T A = (0, 0)) (hm : w.length ≤ 140737488355328) : AC Try.prog 21 [rulV T A, isl w] (.tuple [F2 (bndR T A w).1, I (bndR T A w).2]) := by
  by_cases he : bndE 0 T w = 0
  · obtain ⟨h1, h2, h3⟩ := bndE_ok he
    rw [bndR_0 he]
    exact bound_A T A w h hr h1 h2 h3
  · have h1 := boundOf_err T A w h.len hm (by rw [hr]; exact he)
    rw [hr] at h1
    rw [bndR_e rfl he]
    exact h1
theorem refBound_A (T : List Int) (A : List Act3) (w : List Int) (h : RulOk T A) (hm : w.length ≤ 140737488355328) : AC Try.prog 25 [rulV T A, isl w] (.tuple [F2 (bndR T A w).1, I (bndR T A w).2]) := by
  have ht9 := h.t9
  have ha3 := h.a3
  by_cases hwl : (w.length : Int) = T.length
  rotate_left
  · rw [bndR_e (bndE_len hwl) (by decide)]
    refine ac_body Try.func25 rfl (by kernel_rfl) fun w0 ok => ?_; show AWp _ (ctx0 w0 ok _) _ (ARet _ _ _) (entry _)
    (repeat' (first | (with_reducible first | intro hg | refine awp_seq ?_ | refine q_seq ?_ | refine q_blk ?_ | refine awp_block ?_ | refine awp_skip ?_ | refine awp_ret ?_ | refine awp_exit ?_ | refine q_seqE ?_ | refine q_seqR ?_ | refine q_blkR ?_ | refine q_blkE ?_) | ((with_reducible refine awp_region ?_ ?_); (focus exact kr)) | ((with_reducible refine awp_region_any mixed ?_ ?_); (focus exact kr)) | ((with_reducible apply awp_condT); (focus exact rfl); (focus exact tt)) | ((with_reducible apply awp_condF); (focus exact rfl); (focus exact ff)) | ((with_reducible apply awp_condD); (focus exact rfl)) | ((with_reducible apply awp_condN); (focus exact rfl)) | ((with_reducible apply awp_cond); (focus exact rfl)) | ((with_reducible refine q_blkX ?_ ?_); (focus exact rfl)) | ((with_reducible refine r_nil (And.intro ?_ ?_)); (focus exact kr)) | (with_reducible refine r_nil ?_) | ((with_reducible apply r_put); (focus exact dp)) | ((with_reducible apply r_new); (focus exact dn)) | ((with_reducible apply r_app); (focus exact da)) | ((with_reducible apply r_set); (focus exact ds)) | ((with_reducible apply r_putY); (focus exact rfl); (focus exact rfl); (focus exact tf); (focus exact dp)) | ((with_reducible apply r_newY); (focus exact rfl); (focus exact rfl); (focus exact tf); (focus exact dn)) | ((with_reducible apply r_noT); (focus exact rfl); (focus exact rfl); (focus exact ff)) | ((with_reducible apply r_noF); (focus exact rfl); (focus exact rfl); (focus exact tt)) | ((with_reducible apply r_noU); (focus exact rfl); (focus exact rfl)) | ((with_reducible apply r_splitD); (focus exact rfl); (focus exact rfl)) | ((with_reducible apply r_split); (focus exact rfl); (focus exact rfl))))
    ((with_reducible first | apply q_retR | apply q_retN); (focus exact rl))
    rfl
  refine ac_body Try.func25 rfl (by kernel_rfl) fun w0 ok => ?_; show AWp _ (ctx0 w0 ok _) _ (ARet _ _ _) (entry _)
  (repeat' (first | (with_reducible first | intro hg | refine awp_seq ?_ | refine q_seq ?_ | refine q_blk ?_ | refine awp_block ?_ | refine awp_skip ?_ | refine awp_ret ?_ | refine awp_exit ?_ | refine q_seqE ?_ | refine q_seqR ?_ | refine q_blkR ?_ | refine q_blkE ?_) | ((with_reducible refine awp_region ?_ ?_); (focus exact kr)) | ((with_reducible refine awp_region_any mixed ?_ ?_); (focus exact kr)) | ((with_reducible apply awp_condT); (focus exact rfl); (focus exact tt)) | ((with_reducible apply awp_condF); (focus exact rfl); (focus exact ff)) | ((with_reducible apply awp_condD); (focus exact rfl)) | ((with_reducible apply awp_condN); (focus exact rfl)) | ((with_reducible apply awp_cond); (focus exact rfl)) | ((with_reducible refine q_blkX ?_ ?_); (focus exact rfl)) | ((with_reducible refine r_nil (And.intro ?_ ?_)); (focus exact kr)) | (with_reducible refine r_nil ?_) | ((with_reducible apply r_put); (focus exact dp)) | ((with_reducible apply r_new); (focus exact dn)) | ((with_reducible apply r_app); (focus exact da)) | ((with_reducible apply r_set); (focus exact ds)) | ((with_reducible apply r_putY); (focus exact rfl); (focus exact rfl); (focus exact tf); (focus exact dp)) | ((with_reducible apply r_newY); (focus exact rfl); (focus exact rfl); (focus exact tf); (focus exact dn)) | ((with_reducible apply r_noT); (focus exact rfl); (focus exact rfl); (focus exact ff)) | ((with_reducible apply r_noF); (focus exact rfl); (focus exact rfl); (focus exact tt)) | ((with_reducible apply r_noU); (focus exact rfl); (focus exact rfl)) | ((with_reducible apply r_splitD); (focus exact rfl); (focus exact rfl)) | ((with_reducible apply r_split); (focus exact rfl); (focus exact rfl))))
  refine awp_loopL (α := Nat) (fun k => [(1, .d (isl w)), (2, .ptr 2 0), (4, .ptr 4 0), (6, .d (I (numT T w k))), (7, .d (I (denT w k))), (8, .d (I k))]) (fun _ => [(2, ⟨25, rulC T A⟩), (4, ⟨34, [I 0, I 0]⟩)]) (fun k => k ≤ w.length ∧ ((w.drop k).any fun x => !inR x (-1000) 1000) = outW w ∧ (numT T w k).natAbs ≤ 100000000 * k ∧ 0 ≤ denT w k ∧ denT w k ≤ 1000 * k) (fun k => w.length - k) 0 ⟨Nat.zero_le _, rfl, by unfold numT; simp, by unfold denT; omega, by unfold denT; omega⟩ (And.intro rfl (And.intro rfl (And.intro rfl (And.intro rfl (And.intro rfl (And.intro rfl trivial)))))) (And.intro rfl (And.intro rfl trivial)) fun k ⟨hk, hd, hn, hd0, hd1⟩ => ?_
  by_cases hlt : k < w.length
  · have hw := bwithin_A (nth w k) (-1000) 1000
    rw [any_step hlt] at hd
    cases hq : inR (nth w k) (-1000) 1000
    all_goals rw [hq] at hw hd
    · rw [bndR_e (bndE_out hwl (by rw [← hd]; rfl)) (by decide)]
      (repeat' (first | (with_reducible first | intro hg | refine awp_seq ?_ | refine q_seq ?_ | refine q_blk ?_ | refine awp_block ?_ | refine awp_skip ?_ | refine awp_ret ?_ | refine awp_exit ?_ | refine q_seqE ?_ | refine q_seqR ?_ | refine q_blkR ?_ | refine q_blkE ?_) | ((with_reducible refine awp_region ?_ ?_); (focus exact kr)) | ((with_reducible refine awp_region_any mixed ?_ ?_); (focus exact kr)) | ((with_reducible apply awp_condT); (focus exact rfl); (focus exact tt)) | ((with_reducible apply awp_condF); (focus exact rfl); (focus exact ff)) | ((with_reducible apply awp_condD); (focus exact rfl)) | ((with_reducible apply awp_condN); (focus exact rfl)) | ((with_reducible apply awp_cond); (focus exact rfl)) | ((with_reducible refine q_blkX ?_ ?_); (focus exact rfl)) | ((with_reducible refine r_nil (And.intro ?_ ?_)); (focus exact kr)) | (with_reducible refine r_nil ?_) | ((with_reducible apply r_put); (focus (first | exact o_indexI (j := k) (xs := w) rfl rfl (by omega) rfl | exact dp | exact oc rfl (hw)))) | ((with_reducible apply r_new); (focus exact dn)) | ((with_reducible apply r_app); (focus exact da)) | ((with_reducible apply r_set); (focus exact ds)) | ((with_reducible apply r_putY); (focus exact rfl); (focus exact rfl); (focus exact tf); (focus (first | exact o_indexI (j := k) (xs := w) rfl rfl (by omega) rfl | exact dp | exact oc rfl (hw)))) | ((with_reducible apply r_newY); (focus exact rfl); (focus exact rfl); (focus exact tf); (focus exact dn)) | ((with_reducible apply r_noT); (focus exact rfl); (focus exact rfl); (focus exact ff)) | ((with_reducible apply r_noF); (focus exact rfl); (focus exact rfl); (focus exact tt)) | ((with_reducible apply r_noU); (focus exact rfl); (focus exact rfl)) | ((with_reducible apply r_splitD); (focus exact rfl); (focus exact rfl)) | ((with_reducible apply r_split); (focus exact rfl); (focus exact rfl))))
      ((with_reducible first | apply q_retR | apply q_retN); (focus exact rl))
      rfl
    · have b3 := inR_iff.1 hq
      have b4 := h.tb _ (nth_mem (xs := T) (k := k) (by omega))
      have b5 := mul_rng (x := nth w k) (e := nth T k) 1000 100000 (by omega) (by omega)
      have hs := bsize_A (nth w k) ⟨by omega, by omega⟩
      (repeat' (first | (with_reducible first | intro hg | refine awp_seq ?_ | refine q_seq ?_ | refine q_blk ?_ | refine awp_block ?_ | refine awp_skip ?_ | refine awp_ret ?_ | refine awp_exit ?_ | refine q_seqE ?_ | refine q_seqR ?_ | refine q_blkR ?_ | refine q_blkE ?_) | ((with_reducible refine awp_region ?_ ?_); (focus exact kr)) | ((with_reducible refine awp_region_any mixed ?_ ?_); (focus exact kr)) | ((with_reducible apply awp_condT); (focus exact rfl); (focus exact tt)) | ((with_reducible apply awp_condF); (focus exact rfl); (focus exact ff)) | ((with_reducible apply awp_condD); (focus exact rfl)) | ((with_reducible apply awp_condN); (focus exact rfl)) | ((with_reducible apply awp_cond); (focus exact rfl)) | ((with_reducible refine q_blkX ?_ ?_); (focus exact rfl)) | ((with_reducible refine r_nil (And.intro ?_ ?_)); (focus exact kr)) | (with_reducible refine r_nil ?_) | ((with_reducible apply r_put); (focus (first | exact o_indexI (j := k) (xs := w) rfl rfl (by omega) rfl | exact o_indexI (j := k) (xs := T) rfl rfl (by omega) rfl | exact dp | exact oc rfl (hw) | exact oc rfl (hs)))) | ((with_reducible apply r_new); (focus exact dn)) | ((with_reducible apply r_app); (focus exact da)) | ((with_reducible apply r_set); (focus exact ds)) | ((with_reducible apply r_putY); (focus exact rfl); (focus exact rfl); (focus exact tf); (focus (first | exact o_indexI (j := k) (xs := w) rfl rfl (by omega) rfl | exact o_indexI (j := k) (xs := T) rfl rfl (by omega) rfl | exact dp | exact oc rfl (hw) | exact oc rfl (hs)))) | ((with_reducible apply r_newY); (focus exact rfl); (focus exact rfl); (focus exact tf); (focus exact dn)) | ((with_reducible apply r_noT); (focus exact rfl); (focus exact rfl); (focus exact ff)) | ((with_reducible apply r_noF); (focus exact rfl); (focus exact rfl); (focus exact tt)) | ((with_reducible apply r_noU); (focus exact rfl); (focus exact rfl)) | ((with_reducible apply r_splitD); (focus exact rfl); (focus exact rfl)) | ((with_reducible apply r_split); (focus exact rfl); (focus exact rfl))))
      exact ⟨k + 1, ⟨hlt, hd, by show (numT T w k + nth w k * nth T k).natAbs ≤ _; omega, by show 0 ≤ denT w k + _; omega, by show denT w k + _ ≤ _; omega⟩, by omega, (And.intro rfl (And.intro rfl (And.intro rfl (And.intro rfl (And.intro rfl (And.intro rfl trivial)))))), (And.intro rfl (And.intro rfl trivial))⟩
  rw [any_end hlt] at hd
  obtain rfl : k = w.length := by omega
  have hin := bndE_in hwl hd.symm
  by_cases hz : denT w w.length = 0
  · rw [(denT_nz w).1 hz] at hin
    rw [bndR_e hin (by decide)]
    (repeat' (first | (with_reducible first | intro hg | refine awp_seq ?_ | refine q_seq ?_ | refine q_blk ?_ | refine awp_block ?_ | refine awp_skip ?_ | refine awp_ret ?_ | refine awp_exit ?_ | refine q_seqE ?_ | refine q_seqR ?_ | refine q_blkR ?_ | refine q_blkE ?_) | ((with_reducible refine awp_region ?_ ?_); (focus exact kr)) | ((with_reducible refine awp_region_any mixed ?_ ?_); (focus exact kr)) | ((with_reducible apply awp_condT); (focus exact rfl); (focus exact tt)) | ((with_reducible apply awp_condF); (focus exact rfl); (focus exact ff)) | ((with_reducible apply awp_condD); (focus exact rfl)) | ((with_reducible apply awp_condN); (focus exact rfl)) | ((with_reducible apply awp_cond); (focus exact rfl)) | ((with_reducible refine q_blkX ?_ ?_); (focus exact rfl)) | ((with_reducible refine r_nil (And.intro ?_ ?_)); (focus exact kr)) | (with_reducible refine r_nil ?_) | ((with_reducible apply r_put); (focus exact dp)) | ((with_reducible apply r_new); (focus exact dn)) | ((with_reducible apply r_app); (focus exact da)) | ((with_reducible apply r_set); (focus exact ds)) | ((with_reducible apply r_putY); (focus exact rfl); (focus exact rfl); (focus exact tf); (focus exact dp)) | ((with_reducible apply r_newY); (focus exact rfl); (focus exact rfl); (focus exact tf); (focus exact dn)) | ((with_reducible apply r_noT); (focus exact rfl); (focus exact rfl); (focus exact ff)) | ((with_reducible apply r_noF); (focus exact rfl); (focus exact rfl); (focus exact tt)) | ((with_reducible apply r_noU); (focus exact rfl); (focus exact rfl)) | ((with_reducible apply r_splitD); (focus exact rfl); (focus exact rfl)) | ((with_reducible apply r_split); (focus exact rfl); (focus exact rfl))))
    ((with_reducible first | apply q_retR | apply q_retN); (focus exact rl))
    rfl
  have hz0 : 0 < denT w w.length := by omega
  have hnz : nzW w = true := by
    cases hq : nzW w
    · exact absurd ((denT_nz w).2 hq) hz
    · rfl
  rw [hnz] at hin
  rw [bndR_0 hin]
  have hw : WgtOk T w := ⟨by omega, outW_ok hd.symm⟩
  (repeat' (first | (with_reducible first | intro hg | refine awp_seq ?_ | refine q_seq ?_ | refine q_blk ?_ | refine awp_block ?_ | refine awp_skip ?_ | refine awp_ret ?_ | refine awp_exit ?_ | refine q_seqE ?_ | refine q_seqR ?_ | refine q_blkR ?_ | refine q_blkE ?_) | ((with_reducible refine awp_region ?_ ?_); (focus exact kr)) | ((with_reducible refine awp_region_any mixed ?_ ?_); (focus exact kr)) | ((with_reducible apply awp_condT); (focus exact rfl); (focus exact tt)) | ((with_reducible apply awp_condF); (focus exact rfl); (focus exact ff)) | ((with_reducible apply awp_condD); (focus exact rfl)) | ((with_reducible apply awp_condN); (focus exact rfl)) | ((with_reducible apply awp_cond); (focus exact rfl)) | ((with_reducible refine q_blkX ?_ ?_); (focus exact rfl)) | ((with_reducible refine r_nil (And.intro ?_ ?_)); (focus exact kr)) | (with_reducible refine r_nil ?_) | ((with_reducible apply r_put); (focus exact dp)) | ((with_reducible apply r_new); (focus exact dn)) | ((with_reducible apply r_app); (focus exact da)) | ((with_reducible apply r_set); (focus exact ds)) | ((with_reducible apply r_putY); (focus exact rfl); (focus exact rfl); (focus exact tf); (focus exact dp)) | ((with_reducible apply r_newY); (focus exact rfl); (focus exact rfl); (focus exact tf); (focus exact dn)) | ((with_reducible apply r_noT); (focus exact rfl); (focus exact rfl); (focus exact ff)) | ((with_reducible apply r_noF); (focus exact rfl); (focus exact rfl); (focus exact tt)) | ((with_reducible apply r_noU); (focus exact rfl); (focus exact rfl)) | ((with_reducible apply r_splitD); (focus exact rfl); (focus exact rfl)) | ((with_reducible apply r_split); (focus exact rfl); (focus exact rfl))))
  refine awp_loopL (α := Nat) (fun j => [(1, .d (isl w)), (2, .ptr 2 0), (4, .ptr 4 0), (6, .d (I (num2 (numT T w w.length) A w j))), (7, .d (I (denT w w.length))), (9, .d (I j))]) (fun _ => [(2, ⟨25, rulC T A⟩), (4, ⟨34, [I 0, I 0]⟩)]) (fun j => j ≤ A.length) (fun j => A.length - j) 0 (Nat.zero_le _) (And.intro rfl (And.intro rfl (And.intro rfl (And.intro rfl (And.intro rfl (And.intro rfl trivial)))))) (And.intro rfl (And.intro rfl trivial)) fun j hj => ?_
  have c1 := num2_bnd h hw (n := numT T w w.length) (by omega) j hj
  by_cases hjl : j < A.length
  · obtain ⟨b1, b2, b3, b4, b5⟩ := h.b _ (act_mem hjl)
    have hE := numT_bnd hw (E := (A.getD j a0).eff) (m := 1000) (fun x hx => by have := b5 x hx; omega) b4
    have c2 := num2_bnd h hw (n := numT T w w.length) (by omega) (j + 1) hjl
    (repeat' (first | (with_reducible first | intro hg | refine awp_seq ?_ | refine q_seq ?_ | refine q_blk ?_ | refine awp_block ?_ | refine awp_skip ?_ | refine awp_ret ?_ | refine awp_exit ?_ | refine q_seqE ?_ | refine q_seqR ?_ | refine q_blkR ?_ | refine q_blkE ?_) | ((with_reducible refine awp_region ?_ ?_); (focus exact kr)) | ((with_reducible refine awp_region_any mixed ?_ ?_); (focus exact kr)) | ((with_reducible apply awp_condT); (focus exact rfl); (focus exact tt)) | ((with_reducible apply awp_condF); (focus exact rfl); (focus exact ff)) | ((with_reducible apply awp_condD); (focus exact rfl)) | ((with_reducible apply awp_condN); (focus exact rfl)) | ((with_reducible apply awp_cond); (focus exact rfl)) | ((with_reducible refine q_blkX ?_ ?_); (focus exact rfl)) | ((with_reducible refine r_nil (And.intro ?_ ?_)); (focus exact kr)) | (with_reducible refine r_nil ?_) | ((with_reducible apply r_put); (focus exact dp)) | ((with_reducible apply r_new); (focus exact dn)) | ((with_reducible apply r_app); (focus exact da)) | ((with_reducible apply r_set); (focus exact ds)) | ((with_reducible apply r_putY); (focus exact rfl); (focus exact rfl); (focus exact tf); (focus exact dp)) | ((with_reducible apply r_newY); (focus exact rfl); (focus exact rfl); (focus exact tf); (focus exact dn)) | ((with_reducible apply r_noT); (focus exact rfl); (focus exact rfl); (focus exact ff)) | ((with_reducible apply r_noF); (focus exact rfl); (focus exact rfl); (focus exact tt)) | ((with_reducible apply r_noU); (focus exact rfl); (focus exact rfl)) | ((with_reducible apply r_splitD); (focus exact rfl); (focus exact rfl)) | ((with_reducible apply r_split); (focus exact rfl); (focus exact rfl))))
    refine awp_loopL (α := Nat) (fun k => [(1, .d (isl w)), (2, .ptr 2 0), (4, .ptr 4 0), (6, .d (I (num2 (numT T w w.length) A w j))), (7, .d (I (denT w w.length))), (9, .d (I j)), (10, .d (I (numT (A.getD j a0).eff w k))), (11, .d (I k))])
      (fun _ => [(2, ⟨25, rulC T A⟩), (4, ⟨34, [I 0, I 0]⟩)]) (fun k => k ≤ w.length) (fun k => w.length - k) 0 (Nat.zero_le _) (And.intro rfl (And.intro rfl (And.intro rfl (And.intro rfl (And.intro rfl (And.intro rfl (And.intro rfl (And.intro rfl trivial)))))))) (And.intro rfl (And.intro rfl trivial)) fun k hk => ?_
    have hEk := hE k hk
    by_cases hkl : k < w.length
    · have hEk1 := hE (k + 1) hkl
      have d1 := hw.b _ (nth_mem hkl)
      have d2 := b5 _ (nth_mem (xs := (A.getD j a0).eff) (k := k) (by omega))
      have d3 := mul_rng (x := nth w k) (e := nth (A.getD j a0).eff k) 1000 1000 (by omega) (by omega)
      (repeat' (first | (with_reducible first | intro hg | refine awp_seq ?_ | refine q_seq ?_ | refine q_blk ?_ | refine awp_block ?_ | refine awp_skip ?_ | refine awp_ret ?_ | refine awp_exit ?_ | refine q_seqE ?_ | refine q_seqR ?_ | refine q_blkR ?_ | refine q_blkE ?_) | ((with_reducible refine awp_region ?_ ?_); (focus exact kr)) | ((with_reducible refine awp_region_any mixed ?_ ?_); (focus exact kr)) | ((with_reducible apply awp_condT); (focus exact rfl); (focus exact tt)) | ((with_reducible apply awp_condF); (focus exact rfl); (focus exact ff)) | ((with_reducible apply awp_condD); (focus exact rfl)) | ((with_reducible apply awp_condN); (focus exact rfl)) | ((with_reducible apply awp_cond); (focus exact rfl)) | ((with_reducible refine q_blkX ?_ ?_); (focus exact rfl)) | ((with_reducible refine r_nil (And.intro ?_ ?_)); (focus exact kr)) | (with_reducible refine r_nil ?_) | ((with_reducible apply r_put); (focus (first | exact o_indexF a0 actC_len (by decide) rfl rfl (by omega) rfl | exact o_indexI (j := k) (xs := w) rfl rfl (by omega) rfl | exact o_indexI (j := k) (xs := (A.getD j a0).eff) rfl rfl (by omega) rfl | exact dp))) | ((with_reducible apply r_new); (focus exact dn)) | ((with_reducible apply r_app); (focus exact da)) | ((with_reducible apply r_set); (focus exact ds)) | ((with_reducible apply r_putY); (focus exact rfl); (focus exact rfl); (focus exact tf); (focus (first | exact o_indexF a0 actC_len (by decide) rfl rfl (by omega) rfl | exact o_indexI (j := k) (xs := w) rfl rfl (by omega) rfl | exact o_indexI (j := k) (xs := (A.getD j a0).eff) rfl rfl (by omega) rfl | exact dp))) | ((with_reducible apply r_newY); (focus exact rfl); (focus exact rfl); (focus exact tf); (focus exact dn)) | ((with_reducible apply r_noT); (focus exact rfl); (focus exact rfl); (focus exact ff)) | ((with_reducible apply r_noF); (focus exact rfl); (focus exact rfl); (focus exact tt)) | ((with_reducible apply r_noU); (focus exact rfl); (focus exact rfl)) | ((with_reducible apply r_splitD); (focus exact rfl); (focus exact rfl)) | ((with_reducible apply r_split); (focus exact rfl); (focus exact rfl))))
      exact ⟨k + 1, hkl, by omega, (And.intro rfl (And.intro rfl (And.intro rfl (And.intro rfl (And.intro rfl (And.intro rfl (And.intro rfl (And.intro rfl trivial)))))))), (And.intro rfl (And.intro rfl trivial))⟩
    · have hkl : k = w.length := by omega
      subst hkl
      have d3 := mul_rng (x := numT (A.getD j a0).eff w w.length) (e := (A.getD j a0).lo) 9000000 10 (by omega) (by omega)
      have d4 := mul_rng (x := numT (A.getD j a0).eff w w.length) (e := (A.getD j a0).hi) 9000000 10 (by omega) (by omega)
      (repeat' (first | (with_reducible first | intro hg | refine awp_seq ?_ | refine q_seq ?_ | refine q_blk ?_ | refine awp_block ?_ | refine awp_skip ?_ | refine awp_ret ?_ | refine awp_exit ?_ | refine q_seqE ?_ | refine q_seqR ?_ | refine q_blkR ?_ | refine q_blkE ?_) | ((with_reducible refine awp_region ?_ ?_); (focus exact kr)) | ((with_reducible refine awp_region_any mixed ?_ ?_); (focus exact kr)) | ((with_reducible apply awp_condT); (focus exact rfl); (focus exact tt)) | ((with_reducible apply awp_condF); (focus exact rfl); (focus exact ff)) | ((with_reducible apply awp_condD); (focus exact rfl)) | ((with_reducible apply awp_condN); (focus exact rfl)) | ((with_reducible apply awp_cond); (focus exact rfl)) | ((with_reducible refine q_blkX ?_ ?_); (focus exact rfl)) | ((with_reducible refine r_nil (And.intro ?_ ?_)); (focus exact kr)) | (with_reducible refine r_nil ?_) | ((with_reducible apply r_put); (focus (first | exact o_indexF a0 actC_len (by decide) rfl rfl (by omega) rfl | exact dp))) | ((with_reducible apply r_new); (focus exact dn)) | ((with_reducible apply r_app); (focus exact da)) | ((with_reducible apply r_set); (focus exact ds)) | ((with_reducible apply r_putY); (focus exact rfl); (focus exact rfl); (focus exact tf); (focus (first | exact o_indexF a0 actC_len (by decide) rfl rfl (by omega) rfl | exact dp))) | ((with_reducible apply r_newY); (focus exact rfl); (focus exact rfl); (focus exact tf); (focus exact dn)) | ((with_reducible apply r_noT); (focus exact rfl); (focus exact rfl); (focus exact ff)) | ((with_reducible apply r_noF); (focus exact rfl); (focus exact rfl); (focus exact tt)) | ((with_reducible apply r_noU); (focus exact rfl); (focus exact rfl)) | ((with_reducible apply r_splitD); (focus exact rfl); (focus exact rfl)) | ((with_reducible apply r_split); (focus exact rfl); (focus exact rfl))))
      exact ⟨j + 1, hjl, by omega, (And.intro rfl (And.intro rfl (And.intro rfl (And.intro rfl (And.intro rfl (And.intro rfl trivial)))))), (And.intro rfl (And.intro rfl trivial))⟩
  · have hjl : j = A.length := by omega
    subst hjl
    have hf := blowest_A (num2 (numT T w w.length) A w A.length) (denT w w.length) ⟨by omega, by omega⟩ hz0 (by omega)
    have hsm := bIsSmall_A (low (num2 (numT T w w.length) A w A.length) (denT w w.length)) (low_pos hz0)
    have hb : bndW T A w = frc (num2 (numT T w w.length) A w A.length) (denT w w.length) := rfl
    rw [hb]
    unfold frc
    cases hq : smF (low (num2 (numT T w w.length) A w A.length) (denT w w.length))
    all_goals
      rw [hq] at hsm
      (repeat' (first | (with_reducible first | intro hg | refine awp_seq ?_ | refine q_seq ?_ | refine q_blk ?_ | refine awp_block ?_ | refine awp_skip ?_ | refine awp_ret ?_ | refine awp_exit ?_ | refine q_seqE ?_ | refine q_seqR ?_ | refine q_blkR ?_ | refine q_blkE ?_) | ((with_reducible refine awp_region ?_ ?_); (focus exact kr)) | ((with_reducible refine awp_region_any mixed ?_ ?_); (focus exact kr)) | ((with_reducible apply awp_condT); (focus exact rfl); (focus exact tt)) | ((with_reducible apply awp_condF); (focus exact rfl); (focus exact ff)) | ((with_reducible apply awp_condD); (focus exact rfl)) | ((with_reducible apply awp_condN); (focus exact rfl)) | ((with_reducible apply awp_cond); (focus exact rfl)) | ((with_reducible refine q_blkX ?_ ?_); (focus exact rfl)) | ((with_reducible refine r_nil (And.intro ?_ ?_)); (focus exact kr)) | (with_reducible refine r_nil ?_) | ((with_reducible apply r_put); (focus (first | exact dp | exact oc rfl (hf) | exact oc rfl (hsm)))) | ((with_reducible apply r_new); (focus exact dn)) | ((with_reducible apply r_app); (focus exact da)) | ((with_reducible apply r_set); (focus exact ds)) | ((with_reducible apply r_putY); (focus exact rfl); (focus exact rfl); (focus exact tf); (focus (first | exact dp | exact oc rfl (hf) | exact oc rfl (hsm)))) | ((with_reducible apply r_newY); (focus exact rfl); (focus exact rfl); (focus exact tf); (focus exact dn)) | ((with_reducible apply r_noT); (focus exact rfl); (focus exact rfl); (focus exact ff)) | ((with_reducible apply r_noF); (focus exact rfl); (focus exact rfl); (focus exact tt)) | ((with_reducible apply r_noU); (focus exact rfl); (focus exact rfl)) | ((with_reducible apply r_splitD); (focus exact rfl); (focus exact rfl)) | ((with_reducible apply r_split); (focus exact rfl); (focus exact rfl))))
      ((with_reducible first | apply q_retR | apply q_retN); (focus exact rl))
      rfl
theorem flatBest_A (T : List Int) (A : List Act3) (w : List Int) : AC Try.prog 3 [rulV T A, isl w] (B true) := by
  have aw := awake_A
  have hf := few_A T A
  cases hq : fewP T A
  · rw [hq] at hf
    refine ac_body Try.func3 rfl (by kernel_rfl) fun w0 ok => ?_; show AWp _ (ctx0 w0 ok _) _ (ARet _ _ _) (entry _)
    (repeat' (first | (with_reducible first | intro hg | refine awp_seq ?_ | refine q_seq ?_ | refine q_blk ?_ | refine awp_block ?_ | refine awp_skip ?_ | refine awp_ret ?_ | refine awp_exit ?_ | refine q_seqE ?_ | refine q_seqR ?_ | refine q_blkR ?_ | refine q_blkE ?_) | ((with_reducible refine awp_region ?_ ?_); (focus exact kr)) | ((with_reducible refine awp_region_any mixed ?_ ?_); (focus exact kr)) | ((with_reducible apply awp_condT); (focus exact rfl); (focus exact tt)) | ((with_reducible apply awp_condF); (focus exact rfl); (focus exact ff)) | ((with_reducible apply awp_condD); (focus exact rfl)) | ((with_reducible apply awp_condN); (focus exact rfl)) | ((with_reducible apply awp_cond); (focus exact rfl)) | ((with_reducible refine q_blkX ?_ ?_); (focus exact rfl)) | ((with_reducible refine r_nil (And.intro ?_ ?_)); (focus exact kr)) | (with_reducible refine r_nil ?_) | ((with_reducible apply r_put); (focus (first | exact dp | exact oc rfl (aw) | exact oc rfl (hf)))) | ((with_reducible apply r_new); (focus exact dn)) | ((with_reducible apply r_app); (focus exact da)) | ((with_reducible apply r_set); (focus exact ds)) | ((with_reducible apply r_putY); (focus exact rfl); (focus exact rfl); (focus exact tf); (focus (first | exact dp | exact oc rfl (aw) | exact oc rfl (hf)))) | ((with_reducible apply r_newY); (focus exact rfl); (focus exact rfl); (focus exact tf); (focus exact dn)) | ((with_reducible apply r_noT); (focus exact rfl); (focus exact rfl); (focus exact ff)) | ((with_reducible apply r_noF); (focus exact rfl); (focus exact rfl); (focus exact tt)) | ((with_reducible apply r_noU); (focus exact rfl); (focus exact rfl)) | ((with_reducible apply r_splitD); (focus exact rfl); (focus exact rfl)) | ((with_reducible apply r_split); (focus exact rfl); (focus exact rfl))))
    ((with_reducible first | apply q_retR | apply q_retN); (focus exact rl))
    rfl
  rw [hq] at hf
  have hfo := fewP_ok hq
  have hlo := hfo.len
  have hcr := hfo.copy
  have hs := short_A w
  by_cases hl : (w.length : Int) ≤ 12
  rotate_left
  · rw [decide_eq_false hl] at hs
    refine ac_body Try.func3 rfl (by kernel_rfl) fun w0 ok => ?_; show AWp _ (ctx0 w0 ok _) _ (ARet _ _ _) (entry _)
    (repeat' (first | (with_reducible first | intro hg | refine awp_seq ?_ | refine q_seq ?_ | refine q_blk ?_ | refine awp_block ?_ | refine awp_skip ?_ | refine awp_ret ?_ | refine awp_exit ?_ | refine q_seqE ?_ | refine q_seqR ?_ | refine q_blkR ?_ | refine q_blkE ?_) | ((with_reducible refine awp_region ?_ ?_); (focus exact kr)) | ((with_reducible refine awp_region_any mixed ?_ ?_); (focus exact kr)) | ((with_reducible apply awp_condT); (focus exact rfl); (focus exact tt)) | ((with_reducible apply awp_condF); (focus exact rfl); (focus exact ff)) | ((with_reducible apply awp_condD); (focus exact rfl)) | ((with_reducible apply awp_condN); (focus exact rfl)) | ((with_reducible apply awp_cond); (focus exact rfl)) | ((with_reducible refine q_blkX ?_ ?_); (focus exact rfl)) | ((with_reducible refine r_nil (And.intro ?_ ?_)); (focus exact kr)) | (with_reducible refine r_nil ?_) | ((with_reducible apply r_put); (focus (first | exact dp | exact oc rfl (aw) | exact oc rfl (hf) | exact oc rfl (hs)))) | ((with_reducible apply r_new); (focus exact dn)) | ((with_reducible apply r_app); (focus exact da)) | ((with_reducible apply r_set); (focus exact ds)) | ((with_reducible apply r_putY); (focus exact rfl); (focus exact rfl); (focus exact tf); (focus (first | exact dp | exact oc rfl (aw) | exact oc rfl (hf) | exact oc rfl (hs)))) | ((with_reducible apply r_newY); (focus exact rfl); (focus exact rfl); (focus exact tf); (focus exact dn)) | ((with_reducible apply r_noT); (focus exact rfl); (focus exact rfl); (focus exact ff)) | ((with_reducible apply r_noF); (focus exact rfl); (focus exact rfl); (focus exact tt)) | ((with_reducible apply r_noU); (focus exact rfl); (focus exact rfl)) | ((with_reducible apply r_splitD); (focus exact rfl); (focus exact rfl)) | ((with_reducible apply r_split); (focus exact rfl); (focus exact rfl))))
    ((with_reducible first | apply q_retR | apply q_retN); (focus exact rl))
    rfl
  rw [decide_eq_true hl] at hs
  have hcp := copyInts_A w (by omega)
  have hre := rulesErr_A T A hlo
  by_cases he : (rulE T A).2 = 0
  · obtain ⟨h00, hok⟩ := rulE_ok he
    rw [he] at hre
    have g1 := best_ok T A hok h00
    have g2 := boundOf_A T A w hok h00 (by omega)
    have g3 := refBest_A T A hok
    have g4 := refBound_A T A w hok (by omega)
    have hbl : (bestS T A).1.length ≤ 3 := by
      have := (allS_ok hok).ok _ (bestS_ok hok).1
      have := this.1
      have := hok.a3
      omega
    have hin := ints_A (bestS T A).1 (bestS T A).1 (by omega) (by omega)
    rw [decide_eq_true rfl] at hin
    generalize bestS T A = y at *
    generalize bndR T A w = z at *
    refine ac_body Try.func3 rfl (by kernel_rfl) fun w0 ok => ?_; show AWp _ (ctx0 w0 ok _) _ (ARet _ _ _) (entry _)
    (repeat' (first | (with_reducible first | intro hg | refine awp_seq ?_ | refine q_seq ?_ | refine q_blk ?_ | refine awp_block ?_ | refine awp_skip ?_ | refine awp_ret ?_ | refine awp_exit ?_ | refine q_seqE ?_ | refine q_seqR ?_ | refine q_blkR ?_ | refine q_blkE ?_) | ((with_reducible refine awp_region ?_ ?_); (focus exact kr)) | ((with_reducible refine awp_region_any mixed ?_ ?_); (focus exact kr)) | ((with_reducible apply awp_condT); (focus exact rfl); (focus exact tt)) | ((with_reducible apply awp_condF); (focus exact rfl); (focus exact ff)) | ((with_reducible apply awp_condD); (focus exact rfl)) | ((with_reducible apply awp_condN); (focus exact rfl)) | ((with_reducible apply awp_cond); (focus exact rfl)) | ((with_reducible refine q_blkX ?_ ?_); (focus exact rfl)) | ((with_reducible refine r_nil (And.intro ?_ ?_)); (focus exact kr)) | (with_reducible refine r_nil ?_) | ((with_reducible apply r_put); (focus (first | exact dp | exact oc rfl (aw) | exact oc rfl (hf) | exact oc rfl (hs) | exact oc rfl (hcr) | exact oc rfl (hcp) | exact oc rfl (hre) | exact oc rfl (g1) | exact oc rfl (g2) | exact oc rfl (g3) | exact oc rfl (g4) | exact oc rfl (hin)))) | ((with_reducible apply r_new); (focus exact dn)) | ((with_reducible apply r_app); (focus exact da)) | ((with_reducible apply r_set); (focus exact ds)) | ((with_reducible apply r_putY); (focus exact rfl); (focus exact rfl); (focus exact tf); (focus (first | exact dp | exact oc rfl (aw) | exact oc rfl (hf) | exact oc rfl (hs) | exact oc rfl (hcr) | exact oc rfl (hcp) | exact oc rfl (hre) | exact oc rfl (g1) | exact oc rfl (g2) | exact oc rfl (g3) | exact oc rfl (g4) | exact oc rfl (hin)))) | ((with_reducible apply r_newY); (focus exact rfl); (focus exact rfl); (focus exact tf); (focus exact dn)) | ((with_reducible apply r_noT); (focus exact rfl); (focus exact rfl); (focus exact ff)) | ((with_reducible apply r_noF); (focus exact rfl); (focus exact rfl); (focus exact tt)) | ((with_reducible apply r_noU); (focus exact rfl); (focus exact rfl)) | ((with_reducible apply r_splitD); (focus exact rfl); (focus exact rfl)) | ((with_reducible apply r_split); (focus exact rfl); (focus exact rfl))))
    all_goals first | exact absurd rfl hg | (((with_reducible first | apply q_retR | apply q_retN); (focus exact rl)); first | rfl | exact rt_bool (decide_eq_true rfl).symm)
  · have g1 := best_err T A hlo he
    have hbe : bndE (rulE T A).2 T w = (rulE T A).2 := fst0_ne he _
    have g2 := boundOf_err T A w hlo (by omega) (by rw [hbe]; exact he)
    rw [hbe] at g2
    refine ac_body Try.func3 rfl (by kernel_rfl) fun w0 ok => ?_; show AWp _ (ctx0 w0 ok _) _ (ARet _ _ _) (entry _)
    (repeat' (first | (with_reducible first | intro hg | refine awp_seq ?_ | refine q_seq ?_ | refine q_blk ?_ | refine awp_block ?_ | refine awp_skip ?_ | refine awp_ret ?_ | refine awp_exit ?_ | refine q_seqE ?_ | refine q_seqR ?_ | refine q_blkR ?_ | refine q_blkE ?_) | ((with_reducible refine awp_region ?_ ?_); (focus exact kr)) | ((with_reducible refine awp_region_any mixed ?_ ?_); (focus exact kr)) | ((with_reducible apply awp_condT); (focus exact rfl); (focus exact tt)) | ((with_reducible apply awp_condF); (focus exact rfl); (focus exact ff)) | ((with_reducible apply awp_condD); (focus exact rfl)) | ((with_reducible apply awp_condN); (focus exact rfl)) | ((with_reducible apply awp_cond); (focus exact rfl)) | ((with_reducible refine q_blkX ?_ ?_); (focus exact rfl)) | ((with_reducible refine r_nil (And.intro ?_ ?_)); (focus exact kr)) | (with_reducible refine r_nil ?_) | ((with_reducible apply r_put); (focus (first | exact dp | exact oc rfl (aw) | exact oc rfl (hf) | exact oc rfl (hs) | exact oc rfl (hcr) | exact oc rfl (hcp) | exact oc rfl (hre) | exact oc rfl (g1) | exact oc rfl (g2)))) | ((with_reducible apply r_new); (focus exact dn)) | ((with_reducible apply r_app); (focus exact da)) | ((with_reducible apply r_set); (focus exact ds)) | ((with_reducible apply r_putY); (focus exact rfl); (focus exact rfl); (focus exact tf); (focus (first | exact dp | exact oc rfl (aw) | exact oc rfl (hf) | exact oc rfl (hs) | exact oc rfl (hcr) | exact oc rfl (hcp) | exact oc rfl (hre) | exact oc rfl (g1) | exact oc rfl (g2)))) | ((with_reducible apply r_newY); (focus exact rfl); (focus exact rfl); (focus exact tf); (focus exact dn)) | ((with_reducible apply r_noT); (focus exact rfl); (focus exact rfl); (focus exact ff)) | ((with_reducible apply r_noF); (focus exact rfl); (focus exact rfl); (focus exact tt)) | ((with_reducible apply r_noU); (focus exact rfl); (focus exact rfl)) | ((with_reducible apply r_splitD); (focus exact rfl); (focus exact rfl)) | ((with_reducible apply r_split); (focus exact rfl); (focus exact rfl))))
    all_goals first | exact absurd rfl hg | (((with_reducible first | apply q_retR | apply q_retN); (focus exact rl)); first | rfl | exact rt_bool (decide_eq_true rfl).symm)

end Go.Proofs.Ytgklcfjfegceeaa
