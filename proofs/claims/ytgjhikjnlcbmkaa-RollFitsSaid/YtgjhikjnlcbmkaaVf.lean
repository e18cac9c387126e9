/- Whole numbers of any size: quotients rounded down. -/
import Derived.Test.YtgjhikjnlcbmkaaVe
set_option linter.unusedVariables false
set_option linter.unusedSimpArgs false
namespace Go.Proofs.Ytgjhikjnlcbmkaa
open Go.RowKit
set_option maxRecDepth 20000
set_option maxHeartbeats 8000000

def FlJ (m n : Nat) (j : Nat) (r : Nat) (Q : List Int) : Prop := WDg Q ∧ Q.length = (dg m).length ∧ j ≤ (dg m).length ∧ r < n ∧ ∃ t : Nat, (dg m).drop j = dg t ∧ wval (Q.drop j) * n + r = t
theorem flJ_start {m n : Nat} (hn : 0 < n) : FlJ m n (dg m).length 0 (List.replicate (dg m).length 0) :=
  ⟨fun d hd => by rw [(List.mem_replicate.1 hd).2]; decide, List.length_replicate, Nat.le_refl _, hn, 0, by rw [List.drop_of_length_le (Nat.le_refl _), dg_zero], by
    rw [List.drop_of_length_le (by rw [List.length_replicate]; exact Nat.le_refl _)]
    show (0 : Int) * n + 0 = 0
    omega⟩
theorem flJ_end {m n r : Nat} {Q : List Int} (h : FlJ m n 0 r Q) : wval Q * n + r = m ∧ WDg Q ∧ r < n ∧ Q.length = (dg m).length := by
  obtain ⟨h1, h2, _, h3, t, h4, h5⟩ := h
  have e : m = t := by
    have := congrArg wval (show dg m = dg t from h4)
    rw [dg_val, dg_val] at this
    omega
  rw [← e] at h5
  exact ⟨h5, h1, h3, h2⟩
theorem set_drop {Q : List Int} {j : Nat} (h : j < Q.length) (d : Int) : (Q.set j d).drop j = d :: Q.drop (j + 1) := by
  rw [List.drop_set]
  simp only [Nat.lt_irrefl, if_false, Nat.sub_self]
  rw [List.drop_eq_getElem_cons h, List.set_cons_zero]
theorem flJ_step {m n j r : Nat} {Q : List Int} (h : FlJ m n (j + 1) r Q) {q r' : Nat} (hq : nth (dg m) j + 1000000000 * (r : Int) = (q : Int) * n + r') (hr : r' < n) : FlJ m n j r' (Q.set j q) := by
  obtain ⟨h1, h2, h3, h4, t, h5, h6⟩ := h
  have hd := (dg_WDg m).nth j
  have hql : (q : Int) < 1000000000 := by
    refine Decidable.byContradiction fun hc => ?_
    have h7 : 1000000000 * (n : Int) ≤ q * n := Int.mul_le_mul_of_nonneg_right (by omega) (by omega)
    have h8 : 1000000000 * ((r : Int) + 1) ≤ 1000000000 * (n : Int) := by omega
    omega
  refine ⟨h1.set _ ⟨by omega, hql⟩, by rw [List.length_set]; exact h2, by omega, hr, (nth (dg m) j).toNat + 1000000000 * t, ?_, ?_⟩
  · have e1 : (dg m).drop j = nth (dg m) j :: dg t := by rw [drop_getD (by omega), h5]
    refine e1.trans ?_
    have hv : wval (nth (dg m) j :: dg t) = nth (dg m) j + 1000000000 * (t : Int) := by show _ + _ * wval (dg t) = _; rw [dg_val]
    refine dg_uniq _ (.cons hd (dg_WDg t)) (fun _ => ?_) (by rw [hv]; omega)
    have hl : (nth (dg m) j :: dg t).length = (dg m).length - j := by rw [← e1, List.length_drop]
    have hm0 : m ≠ 0 := fun e => by rw [e, dg_zero] at h3; simp at h3
    have hz := dg_last m hm0
    have e4 : nth (nth (dg m) j :: dg t) ((nth (dg m) j :: dg t).length - 1) = nth (dg m) ((dg m).length - 1) := by
      rw [hl, ← e1]
      unfold nth
      rw [List.getD_eq_getElem?_getD, List.getD_eq_getElem?_getD, List.getElem?_drop, show j + ((dg m).length - j - 1) = (dg m).length - 1 by omega]
    rw [e4]; exact hz
  · rw [set_drop (by omega)]
    show ((q : Int) + 1000000000 * wval (Q.drop (j + 1))) * n + r' = (((nth (dg m) j).toNat + 1000000000 * t : Nat) : Int)
    have e : (((nth (dg m) j).toNat + 1000000000 * t : Nat) : Int) = nth (dg m) j + 1000000000 * ((t : Nat) : Int) := by omega
    rw [e, ← h6]
    generalize wval (Q.drop (j + 1)) = w at *
    rw [Int.mul_add, Int.add_mul, ← Int.mul_assoc]
    omega
def SrJ (n R : Nat) (lo hi : Int) : Prop := 0 ≤ lo ∧ lo ≤ hi ∧ hi ≤ 999999999 ∧ lo * n ≤ R ∧ (R : Int) < (hi + 1) * n
theorem srJ_lo {n R : Nat} {lo hi mid : Int} (h : SrJ n R lo hi) (h1 : lo < mid) (h2 : mid ≤ hi) (h3 : (n : Int) * mid ≤ R) : SrJ n R mid hi := by
  obtain ⟨a, b, c, d, e⟩ := h
  exact ⟨by omega, h2, c, by rw [Int.mul_comm]; exact h3, e⟩
theorem srJ_hi {n R : Nat} {lo hi mid : Int} (h : SrJ n R lo hi) (h1 : lo < mid) (h2 : mid ≤ hi) (h3 : ¬ (n : Int) * mid ≤ R) : SrJ n R lo (mid - 1) := by
  obtain ⟨a, b, c, d, e⟩ := h
  refine ⟨a, by omega, by omega, d, ?_⟩
  rw [Int.sub_add_cancel, Int.mul_comm]
  omega
theorem sign_le {z : Int} (h : z ≤ 0) : z.sign ≤ 0 := by
  rcases Int.lt_trichotomy z 0 with h1 | h1 | h1
  · rw [Int.sign_eq_neg_one_of_neg h1]; decide
  · rw [h1]; decide
  · omega
theorem mul_natAbs {n : Nat} {q : Int} (h : 0 ≤ q) : (((n : Int) * q).natAbs : Int) = (n : Int) * q := by
  have := Int.mul_nonneg (Int.natCast_nonneg n) h
  omega
theorem wlen_small {q : Int} (h : 0 ≤ q ∧ q ≤ 999999999) : wlen q ≤ 1 := dg_len_le (by show _ < (1000000000 : Int) ^ 1; rw [Int.pow_succ, Int.pow_zero]; omega)
theorem wlen_mul (x y : Int) : wlen (x * y) ≤ wlen x + wlen y := by
  show (dg (x * y).natAbs).length ≤ _
  rw [Int.natAbs_mul]; exact dg_len_mul _ _
theorem floor_of {x q : Int} {n r : Nat} (h : q * n + r = x) (hr : r < n) : x / (n : Int) = q := by
  rw [← h, Int.add_comm, Int.add_mul_ediv_right _ _ (by omega), Int.ediv_eq_zero_of_lt (by omega) (by omega), Int.zero_add]
theorem floor_neg {x q : Int} {n r : Nat} (h : q * n + r = -x) (hr : r < n) : x / (n : Int) = if r = 0 then -q else -q - 1 := by
  by_cases h0 : r = 0
  · rw [if_pos h0]
    subst h0
    exact floor_of (r := 0) (by rw [Int.neg_mul]; omega) hr
  · rw [if_neg h0]
    refine floor_of (r := n - r) ?_ (by omega)
    rw [Int.sub_mul, Int.neg_mul, Int.one_mul]
    omega
theorem wideFloor_A (x : Int) (n : Nat) (hn : 0 < n) (hx : wlen x ≤ 100000) (hy : (dg n).length ≤ 100000) : AC Try.prog 77 [wdV x, wdV (n : Int)] (wdV (x / (n : Int))) := by
  by_cases h0 : x = 0
  · subst h0
    rw [Int.zero_ediv]
    refine ac_wide0 ?_
    have e : (0 : Int).sign = 0 := rfl
    refine ac_body Try.func77 rfl (by kernel_rfl) fun w0 ok => ?_; show AWp _ (ctx0 w0 ok _) _ (ARet _ _ _) (entry _)
    (repeat' (first | (with_reducible first | intro hg | refine mv (by constructor) ?_) | ((with_reducible first | refine zR ?_ ?_ | refine zW mixed ?_ ?_); exact kr) | ((with_reducible apply zK); exact rfl; exact tf) | ((with_reducible apply zCD); exact rfl) | ((with_reducible apply zCN); exact rfl) | ((with_reducible apply zC); exact rfl) | ((with_reducible refine zX ?_ ?_); exact rfl) | ((with_reducible refine zE (And.intro ?_ ?_)); exact kr) | (with_reducible refine zE ?_) | ((with_reducible apply zP); exact dp) | ((with_reducible apply zN); exact dn) | ((with_reducible apply zA); exact da) | ((with_reducible apply zS); exact ds) | ((with_reducible apply zY); exact rfl; exact rfl; exact tf) | ((with_reducible apply zG); exact rfl; exact rfl; exact tf) | ((with_reducible apply zU); exact rfl; exact rfl) | ((with_reducible apply zD); exact rfl; exact rfl) | ((with_reducible apply zB); exact rfl; exact rfl)))
    ((with_reducible first | apply q_retR | apply q_retN); exact rl)
    rfl
  have hs := sign_bnd x
  have hs0 : x.sign ≠ 0 := fun e => h0 (sign_zero.1 e)
  have hx : (dg x.natAbs).length ≤ 100000 := hx
  have hnn : (n : Int).natAbs = n := rfl
  have hwo := wideOf_dg 1 n (n : Int) (by omega) rfl (fun _ => (Int.sign_eq_one_of_pos (by omega)).symm)
  refine ac_body Try.func77 rfl (by kernel_rfl) fun w0 ok => ?_; show AWp _ (ctx0 w0 ok _) _ (ARet _ _ _) (entry _)
  (repeat' (first | (with_reducible first | intro hg | refine mv (by constructor) ?_) | ((with_reducible first | refine zR ?_ ?_ | refine zW mixed ?_ ?_); exact kr) | ((with_reducible apply zK); exact rfl; exact tf) | ((with_reducible apply zCD); exact rfl) | ((with_reducible apply zCN); exact rfl) | ((with_reducible apply zC); exact rfl) | ((with_reducible refine zX ?_ ?_); exact rfl) | ((with_reducible refine zE (And.intro ?_ ?_)); exact kr) | (with_reducible refine zE ?_) | ((with_reducible apply zP); (first | exact o_buildSlD rfl (by decide) rfl | exact dp)) | ((with_reducible apply zN); (first | exact dn | exact o_makeSl rfl (by omega) (by omega) rfl)) | ((with_reducible apply zA); exact da) | ((with_reducible apply zS); exact ds) | ((with_reducible apply zY); exact rfl; exact rfl; exact tf) | ((with_reducible apply zG); exact rfl; exact rfl; exact tf) | ((with_reducible apply zU); exact rfl; exact rfl) | ((with_reducible apply zD); exact rfl; exact rfl) | ((with_reducible apply zB); exact rfl; exact rfl)))
  refine awp_loopL3 (fun (j r : Nat) (_ : List Int) => [(2, .ptr 2 0), (3, .ptr 3 0), (4, .ptr 4 0), (5, .lsl 19 0 (dg x.natAbs).length 1), (6, .d (isl (dg r))), (7, .d (I ((j : Int) - 1)))]) (fun _ _ Q => [(2, ⟨93, wdC x⟩), (3, ⟨93, wdC n⟩), (4, ⟨93, [I 0, nilV]⟩), (19, ⟨3, ivs Q⟩)]) (fun j r Q => FlJ x.natAbs n j r Q) (fun j _ _ => j) (dg x.natAbs).length 0 (List.replicate (dg x.natAbs).length 0) (flJ_start hn) (And.intro rfl (And.intro rfl (And.intro rfl (And.intro rfl (And.intro (by rw [dg_zero]; rfl) (And.intro (rfl) trivial)))))) (And.intro rfl (And.intro rfl (And.intro rfl (And.intro (congrArg (fun l => some (Blk.mk _ l)) (zeros_ivs _)) trivial)))) fun j r Q hJ => ?_
  have hQl := hJ.2.1
  have hjl := hJ.2.2.1
  have hrn := hJ.2.2.2.1
  have hrl := dg_len_mono (m := r) (n := n) (by omega)
  rcases j with _ | j
  · obtain ⟨e1, e2, e3, e4⟩ := flJ_end hJ
    have hQn := wval_nn e2
    clear hJ
    refine awp_ownL 5 19 (t := 3) Q (by rw [← hQl]; rcases Q with _ | ⟨o, Q⟩ <;> first | rfl | (exfalso; simp at hQl; exact h0 (by have := dg_nil.1 (List.length_eq_zero_iff.1 hQl.symm); omega))) (fun x k hk => rfl) ?_
    rcases Int.lt_trichotomy x 0 with hneg | hz | hpos
    · have sx : x.sign = -1 := Int.sign_eq_neg_one_of_neg hneg
      have hf := floor_neg (x := x) (q := wval Q) (n := n) (r := r) (by omega) e3
      have a1 := wideOf_A (-1) Q (-wval Q) e2 (by omega) (by omega) (fun h => (Int.sign_eq_neg_one_of_neg (by omega)).symm)
      rw [← sx] at a1
      by_cases hr : r = 0
      · rw [if_pos hr] at hf
        rw [hf]
        subst hr
        have hl0 : (dg 0).length = 0 := by rw [dg_zero]; rfl
        (repeat' (first | (with_reducible first | intro hg | refine mv (by constructor) ?_) | ((with_reducible first | refine zR ?_ ?_ | refine zW mixed ?_ ?_); exact kr) | ((with_reducible apply zK); exact rfl; exact tf) | ((with_reducible apply zCD); exact rfl) | ((with_reducible apply zCN); exact rfl) | ((with_reducible apply zC); exact rfl) | ((with_reducible refine zX ?_ ?_); exact rfl) | ((with_reducible refine zE (And.intro ?_ ?_)); exact kr) | (with_reducible refine zE ?_) | ((with_reducible apply zP); (first | exact dp | exact oc rfl (a1))) | ((with_reducible apply zN); exact dn) | ((with_reducible apply zA); exact da) | ((with_reducible apply zS); exact ds) | ((with_reducible apply zY); exact rfl; exact rfl; exact tf) | ((with_reducible apply zG); exact rfl; exact rfl; exact tf) | ((with_reducible apply zU); exact rfl; exact rfl) | ((with_reducible apply zD); exact rfl; exact rfl) | ((with_reducible apply zB); exact rfl; exact rfl)))
        ((with_reducible first | apply q_retR | apply q_retN); exact rl)
        rfl
      · rw [if_neg hr] at hf
        rw [hf]
        have hl0 : 0 < (dg r).length := by have := dg_len0 (n := r); omega
        have a2 := bigOf_A 1 ⟨by decide, by decide⟩
        have hwl : wlen (-wval Q) ≤ 1000000 := by
          rw [wlen_neg]
          have h1 := wval_lt e2
          have h2 := dg_len_le (n := (wval Q).natAbs) (k := Q.length) (by omega)
          show (dg (wval Q).natAbs).length ≤ _
          omega
        have a3 := wideSub_A (-wval Q) 1 hwl (Nat.le_trans (wlen_small ⟨by decide, by decide⟩) (by decide))
        (repeat' (first | (with_reducible first | intro hg | refine mv (by constructor) ?_) | ((with_reducible first | refine zR ?_ ?_ | refine zW mixed ?_ ?_); exact kr) | ((with_reducible apply zK); exact rfl; exact tf) | ((with_reducible apply zCD); exact rfl) | ((with_reducible apply zCN); exact rfl) | ((with_reducible apply zC); exact rfl) | ((with_reducible refine zX ?_ ?_); exact rfl) | ((with_reducible refine zE (And.intro ?_ ?_)); exact kr) | (with_reducible refine zE ?_) | ((with_reducible apply zP); (first | exact dp | exact oc rfl (a1) | exact oc rfl (a2) | exact oc rfl (a3))) | ((with_reducible apply zN); exact dn) | ((with_reducible apply zA); exact da) | ((with_reducible apply zS); exact ds) | ((with_reducible apply zY); exact rfl; exact rfl; exact tf) | ((with_reducible apply zG); exact rfl; exact rfl; exact tf) | ((with_reducible apply zU); exact rfl; exact rfl) | ((with_reducible apply zD); exact rfl; exact rfl) | ((with_reducible apply zB); exact rfl; exact rfl)))
        ((with_reducible first | apply q_retR | apply q_retN); exact rl)
        rfl
    · exact absurd hz h0
    · have sx : x.sign = 1 := Int.sign_eq_one_of_pos hpos
      have hf := floor_of (x := x) (q := wval Q) (n := n) (r := r) (by omega) e3
      have a1 := wideOf_A 1 Q (wval Q) e2 (by omega) (by omega) (fun h => (Int.sign_eq_one_of_pos (by omega)).symm)
      rw [← sx] at a1
      rw [hf]
      (repeat' (first | (with_reducible first | intro hg | refine mv (by constructor) ?_) | ((with_reducible first | refine zR ?_ ?_ | refine zW mixed ?_ ?_); exact kr) | ((with_reducible apply zK); exact rfl; exact tf) | ((with_reducible apply zCD); exact rfl) | ((with_reducible apply zCN); exact rfl) | ((with_reducible apply zC); exact rfl) | ((with_reducible refine zX ?_ ?_); exact rfl) | ((with_reducible refine zE (And.intro ?_ ?_)); exact kr) | (with_reducible refine zE ?_) | ((with_reducible apply zP); (first | exact dp | exact oc rfl (a1))) | ((with_reducible apply zN); exact dn) | ((with_reducible apply zA); exact da) | ((with_reducible apply zS); exact ds) | ((with_reducible apply zY); exact rfl; exact rfl; exact tf) | ((with_reducible apply zG); exact rfl; exact rfl; exact tf) | ((with_reducible apply zU); exact rfl; exact rfl) | ((with_reducible apply zD); exact rfl; exact rfl) | ((with_reducible apply zB); exact rfl; exact rfl)))
      ((with_reducible first | apply q_retR | apply q_retN); exact rl)
      rfl
  · have i1 : AV.d (I (((j + 1 : Nat) : Int) - 1)) = AV.d (I (j : Int)) := congrArg (fun n => AV.d (I n)) (by omega)
    have i2 : AV.d (I (((j + 1 : Nat) : Int) - 1 - 1)) = AV.d (I ((j : Int) - 1)) := congrArg (fun n => AV.d (I n)) (by omega)
    have ha := (dg_WDg x.natAbs).nth j
    have hstep := fun (q r' : Nat) h1 h2 => flJ_step (q := q) (r' := r') hJ h1 h2
    clear hJ
    generalize hA : nth (dg x.natAbs) j = a at *
    have hv : wval (a :: dg r) = a + 1000000000 * (r : Int) := by show _ + _ * wval (dg r) = _; rw [dg_val]
    have ht := trimmed_A (a :: dg r) (.cons ha (dg_WDg r)) (by rw [List.length_cons]; omega)
    rw [hv] at ht
    have hRl : (dg (a + 1000000000 * (r : Int)).toNat).length ≤ 100001 := by
      refine dg_len_le ?_
      have h1 := dg_upper r
      have h2 := wpow_le (a := (dg r).length) (b := 100000) (by omega)
      have h3 := wpow_succ 100000
      omega
    generalize hR : (a + 1000000000 * (r : Int)).toNat = R at *
    have hsr : SrJ n R 0 999999999 := ⟨by decide, by decide, by decide, by rw [Int.zero_mul]; omega, by rw [show (999999999 : Int) + 1 = 1000000000 from rfl]; omega⟩
    have hRa : a + 1000000000 * (r : Int) = R := by omega
    subst hA
    by_cases hr : r = 0
    · subst hr
      rw [dg_zero] at ht ⊢
      (repeat' ((fail_if_success (with_reducible show AWp _ _ (.region 7 _ _) _ _)); (first | (with_reducible first | intro hg | refine mv (by constructor) ?_) | ((with_reducible first | refine zR ?_ ?_ | refine zW mixed ?_ ?_); exact kr) | ((with_reducible apply zK); exact rfl; exact tf) | ((with_reducible apply zCD); exact rfl) | ((with_reducible apply zCN); exact rfl) | ((with_reducible apply zC); exact rfl) | ((with_reducible refine zX ?_ ?_); exact rfl) | ((with_reducible refine zE (And.intro ?_ ?_)); exact kr) | (with_reducible refine zE ?_) | ((with_reducible apply zP); exact dp) | ((with_reducible apply zN); exact dn) | ((with_reducible apply zA); exact da) | ((with_reducible apply zS); exact ds) | ((with_reducible apply zY); exact rfl; exact rfl; exact tf) | ((with_reducible apply zG); exact rfl; exact rfl; exact tf) | ((with_reducible apply zU); exact rfl; exact rfl) | ((with_reducible apply zD); exact rfl; exact rfl) | ((with_reducible apply zB); exact rfl; exact rfl))))
      refine awp_regionL ?_
      ((refine wpl_run (l1 := [_, _, _, _, _, _, _, _]) rfl ?_ ?_); exact kr; (repeat' (first | (with_reducible first | intro hg | refine mv (by constructor) ?_) | ((with_reducible first | refine zR ?_ ?_ | refine zW mixed ?_ ?_); exact kr) | ((with_reducible apply zK); exact rfl; exact tf) | ((with_reducible apply zCD); exact rfl) | ((with_reducible apply zCN); exact rfl) | ((with_reducible apply zC); exact rfl) | ((with_reducible refine zX ?_ ?_); exact rfl) | ((with_reducible refine zE (And.intro ?_ ?_)); exact kr) | (with_reducible refine zE ?_) | ((with_reducible apply zP); (first | exact o_indexI (j := j) (xs := dg x.natAbs) rfl (by exact i1) (by omega) rfl | exact dp)) | ((with_reducible apply zN); exact dn) | ((with_reducible apply zA); exact da) | ((with_reducible apply zS); exact ds) | ((with_reducible apply zY); exact rfl; exact rfl; exact tf) | ((with_reducible apply zG); exact rfl; exact rfl; exact tf) | ((with_reducible apply zU); exact rfl; exact rfl) | ((with_reducible apply zD); exact rfl; exact rfl) | ((with_reducible apply zB); exact rfl; exact rfl))))
      refine wpl_turn (turns_freeze 34 (by rfl)) fun _ => ?_
      ((refine wpl_run (l1 := [_, _]) rfl ?_ ?_); exact kr; (repeat' (first | (with_reducible first | intro hg | refine mv (by constructor) ?_) | ((with_reducible first | refine zR ?_ ?_ | refine zW mixed ?_ ?_); exact kr) | ((with_reducible apply zK); exact rfl; exact tf) | ((with_reducible apply zCD); exact rfl) | ((with_reducible apply zCN); exact rfl) | ((with_reducible apply zC); exact rfl) | ((with_reducible refine zX ?_ ?_); exact rfl) | ((with_reducible refine zE (And.intro ?_ ?_)); exact kr) | (with_reducible refine zE ?_) | ((with_reducible apply zP); (first | exact dp | exact oc rfl (ht))) | ((with_reducible apply zN); exact dn) | ((with_reducible apply zA); exact da) | ((with_reducible apply zS); exact ds) | ((with_reducible apply zY); exact rfl; exact rfl; exact tf) | ((with_reducible apply zG); exact rfl; exact rfl; exact tf) | ((with_reducible apply zU); exact rfl; exact rfl) | ((with_reducible apply zD); exact rfl; exact rfl) | ((with_reducible apply zB); exact rfl; exact rfl))))
      refine wpl_nil ?_
      (repeat' (first | (with_reducible first | intro hg | refine mv (by constructor) ?_) | ((with_reducible first | refine zR ?_ ?_ | refine zW mixed ?_ ?_); exact kr) | ((with_reducible apply zK); exact rfl; exact tf) | ((with_reducible apply zCD); exact rfl) | ((with_reducible apply zCN); exact rfl) | ((with_reducible apply zC); exact rfl) | ((with_reducible refine zX ?_ ?_); exact rfl) | ((with_reducible refine zE (And.intro ?_ ?_)); exact kr) | (with_reducible refine zE ?_) | ((with_reducible apply zP); exact dp) | ((with_reducible apply zN); exact dn) | ((with_reducible apply zA); exact da) | ((with_reducible apply zS); exact ds) | ((with_reducible apply zY); exact rfl; exact rfl; exact tf) | ((with_reducible apply zG); exact rfl; exact rfl; exact tf) | ((with_reducible apply zU); exact rfl; exact rfl) | ((with_reducible apply zD); exact rfl; exact rfl) | ((with_reducible apply zB); exact rfl; exact rfl)))
      refine awp_loopL2 (fun (lo hi : Int) => [(2, .ptr 2 0), (3, .ptr 3 0), (4, .ptr 4 0), (5, .lsl 19 0 (dg x.natAbs).length 1), (6, .d (isl (dg R))), (7, .d (I (((j + 1 : Nat) : Int) - 1))), (8, .d (I lo)), (9, .d (I hi))]) (fun _ _ => [(2, ⟨93, wdC x⟩), (3, ⟨93, wdC n⟩), (4, ⟨93, [I 0, nilV]⟩), (19, ⟨3, ivs Q⟩)]) (fun lo hi => SrJ n R lo hi) (fun lo hi => (hi - lo).toNat) 0 999999999 hsr (And.intro rfl (And.intro rfl (And.intro rfl (And.intro rfl (And.intro rfl (And.intro rfl (And.intro rfl (And.intro rfl trivial)))))))) (And.intro rfl (And.intro rfl (And.intro rfl (And.intro rfl trivial)))) fun lo hi hS => ?_
      have hS0 := hS.1
      have hS1 := hS.2.1
      have hS2 := hS.2.2.1
      by_cases hlt : lo < hi
      · have hm0 : lo < (lo + hi + 1) / 2 := by omega
        have hm1 : (lo + hi + 1) / 2 ≤ hi := by omega
        have hb := bigOf_A ((lo + hi + 1) / 2) ⟨by omega, by omega⟩
        have hwm := wlen_small (q := (lo + hi + 1) / 2) ⟨by omega, by omega⟩
        have hwn : wlen (n : Int) ≤ 100000 := hy
        have hmul := wideMul_A (n : Int) ((lo + hi + 1) / 2) (by omega) (by omega)
        have hwl : (dg ((n : Int) * ((lo + hi + 1) / 2)).natAbs).length ≤ wlen (n : Int) + wlen ((lo + hi + 1) / 2) := wlen_mul (n : Int) ((lo + hi + 1) / 2)
        have hD := mul_natAbs (n := n) (q := (lo + hi + 1) / 2) (by omega)
        have hcmp := cmpDigits_A ((n : Int) * ((lo + hi + 1) / 2)).natAbs R (by omega) (by omega)
        rw [hD] at hcmp
        by_cases hle : (n : Int) * ((lo + hi + 1) / 2) ≤ R
        · have hsg := sign_le (z := (n : Int) * ((lo + hi + 1) / 2) - R) (by omega)
          have hS' := srJ_lo hS hm0 hm1 hle
          clear hS hD hle hwl hwm hwn
          (repeat' (first | (with_reducible first | intro hg | refine mv (by constructor) ?_) | ((with_reducible first | refine zR ?_ ?_ | refine zW mixed ?_ ?_); exact kr) | ((with_reducible apply zK); exact rfl; exact tf) | ((with_reducible apply zCD); exact rfl) | ((with_reducible apply zCN); exact rfl) | ((with_reducible apply zC); exact rfl) | ((with_reducible refine zX ?_ ?_); exact rfl) | ((with_reducible refine zE (And.intro ?_ ?_)); exact kr) | (with_reducible refine zE ?_) | ((with_reducible apply zP); (first | exact dp | exact oc rfl (hwo) | exact oc rfl (hb) | exact oc rfl (hmul) | exact oc rfl (hcmp))) | ((with_reducible apply zN); exact dn) | ((with_reducible apply zA); exact da) | ((with_reducible apply zS); exact ds) | ((with_reducible apply zY); exact rfl; exact rfl; exact tf) | ((with_reducible apply zG); exact rfl; exact rfl; exact tf) | ((with_reducible apply zU); exact rfl; exact rfl) | ((with_reducible apply zD); exact rfl; exact rfl) | ((with_reducible apply zB); exact rfl; exact rfl)))
          exact ⟨_, hi, hS', by omega, (And.intro rfl (And.intro rfl (And.intro rfl (And.intro rfl (And.intro rfl (And.intro rfl (And.intro rfl (And.intro rfl trivial)))))))), (And.intro rfl (And.intro rfl (And.intro rfl (And.intro rfl trivial))))⟩
        · have hsg := Int.sign_eq_one_of_pos (a := (n : Int) * ((lo + hi + 1) / 2) - R) (by omega)
          rw [hsg] at hcmp
          have hS' := srJ_hi hS hm0 hm1 hle
          clear hS hD hle hwl hwm hwn hsg
          (repeat' (first | (with_reducible first | intro hg | refine mv (by constructor) ?_) | ((with_reducible first | refine zR ?_ ?_ | refine zW mixed ?_ ?_); exact kr) | ((with_reducible apply zK); exact rfl; exact tf) | ((with_reducible apply zCD); exact rfl) | ((with_reducible apply zCN); exact rfl) | ((with_reducible apply zC); exact rfl) | ((with_reducible refine zX ?_ ?_); exact rfl) | ((with_reducible refine zE (And.intro ?_ ?_)); exact kr) | (with_reducible refine zE ?_) | ((with_reducible apply zP); (first | exact dp | exact oc rfl (hwo) | exact oc rfl (hb) | exact oc rfl (hmul) | exact oc rfl (hcmp))) | ((with_reducible apply zN); exact dn) | ((with_reducible apply zA); exact da) | ((with_reducible apply zS); exact ds) | ((with_reducible apply zY); exact rfl; exact rfl; exact tf) | ((with_reducible apply zG); exact rfl; exact rfl; exact tf) | ((with_reducible apply zU); exact rfl; exact rfl) | ((with_reducible apply zD); exact rfl; exact rfl) | ((with_reducible apply zB); exact rfl; exact rfl)))
          exact ⟨lo, _, hS', by omega, (And.intro rfl (And.intro rfl (And.intro rfl (And.intro rfl (And.intro rfl (And.intro rfl (And.intro rfl (And.intro rfl trivial)))))))), (And.intro rfl (And.intro rfl (And.intro rfl (And.intro rfl trivial))))⟩
      · obtain rfl : lo = hi := by omega
        obtain ⟨q, rfl⟩ := Int.eq_ofNat_of_zero_le hS0
        have hlo := hS.2.2.2.1
        have hhi := hS.2.2.2.2
        rw [Int.add_mul, Int.one_mul] at hhi
        have hb := bigOf_A (q : Int) ⟨by omega, by omega⟩
        have hwm := wlen_small (q := (q : Int)) ⟨by omega, by omega⟩
        have hwn : wlen (n : Int) ≤ 100000 := hy
        have hmul := wideMul_A (n : Int) (q : Int) (by omega) (by omega)
        have hD := mul_natAbs (n := n) (q := (q : Int)) (by omega)
        have hcm : (n : Int) * q = q * n := Int.mul_comm _ _
        have hsub := subDigits_A R ((n : Int) * q).natAbs (by omega) (by omega)
        have hst := hstep q (R - ((n : Int) * q).natAbs) (by omega) (by omega)
        clear hS hD hcm hlo hhi hwm hwn hstep
        (repeat' (first | (with_reducible first | intro hg | refine mv (by constructor) ?_) | ((with_reducible first | refine zR ?_ ?_ | refine zW mixed ?_ ?_); exact kr) | ((with_reducible apply zK); exact rfl; exact tf) | ((with_reducible apply zCD); exact rfl) | ((with_reducible apply zCN); exact rfl) | ((with_reducible apply zC); exact rfl) | ((with_reducible refine zX ?_ ?_); exact rfl) | ((with_reducible refine zE (And.intro ?_ ?_)); exact kr) | (with_reducible refine zE ?_) | ((with_reducible apply zP); (first | exact o_indexL (o := j) rfl (by exact i1) (by omega) (by omega) (by omega) | exact dp | exact oc rfl (hwo) | exact oc rfl (hb) | exact oc rfl (hmul) | exact oc rfl (hsub))) | ((with_reducible apply zN); exact dn) | ((with_reducible apply zA); exact da) | ((with_reducible apply zS); (first | exact o_storeLI rfl rfl rfl (by omega) | exact ds)) | ((with_reducible apply zY); exact rfl; exact rfl; exact tf) | ((with_reducible apply zG); exact rfl; exact rfl; exact tf) | ((with_reducible apply zU); exact rfl; exact rfl) | ((with_reducible apply zD); exact rfl; exact rfl) | ((with_reducible apply zB); exact rfl; exact rfl)))
        exact ⟨j, _, _, hst, by omega, (And.intro rfl (And.intro rfl (And.intro rfl (And.intro rfl (And.intro rfl (And.intro (i2) trivial)))))), (And.intro rfl (And.intro rfl (And.intro rfl (And.intro rfl trivial))))⟩
    · have hl0 : 0 < (dg r).length := by have := dg_len0 (n := r); omega
      have hne : ivs (dg r) ≠ [] := fun e => by have := congrArg List.length e; simp [ivs] at this; rw [this] at hl0; simp at hl0
      have e : isl (nth (dg x.natAbs) j :: dg r) = DV.slice (1 + (dg r).length) ((([I (nth (dg x.natAbs) j)] ++ ivs (dg r)).drop 0).take ((1 + (dg r).length) * 1)) := by
        show DV.slice ((dg r).length + 1) (I (nth (dg x.natAbs) j) :: ivs (dg r)) = _
        rw [Nat.add_comm, List.drop_zero, Nat.mul_one, List.take_of_length_le (by simp [ivs]; omega)]
        rfl
      rw [e] at ht
      (repeat' ((fail_if_success (with_reducible show AWp _ _ (.region 7 _ _) _ _)); (first | (with_reducible first | intro hg | refine mv (by constructor) ?_) | ((with_reducible first | refine zR ?_ ?_ | refine zW mixed ?_ ?_); exact kr) | ((with_reducible apply zK); exact rfl; exact tf) | ((with_reducible apply zCD); exact rfl) | ((with_reducible apply zCN); exact rfl) | ((with_reducible apply zC); exact rfl) | ((with_reducible refine zX ?_ ?_); exact rfl) | ((with_reducible refine zE (And.intro ?_ ?_)); exact kr) | (with_reducible refine zE ?_) | ((with_reducible apply zP); exact dp) | ((with_reducible apply zN); exact dn) | ((with_reducible apply zA); exact da) | ((with_reducible apply zS); exact ds) | ((with_reducible apply zY); exact rfl; exact rfl; exact tf) | ((with_reducible apply zG); exact rfl; exact rfl; exact tf) | ((with_reducible apply zU); exact rfl; exact rfl) | ((with_reducible apply zD); exact rfl; exact rfl) | ((with_reducible apply zB); exact rfl; exact rfl))))
      refine awp_regionL ?_
      ((refine wpl_run (l1 := [_, _, _, _, _, _, _, _]) rfl ?_ ?_); exact kr; (repeat' (first | (with_reducible first | intro hg | refine mv (by constructor) ?_) | ((with_reducible first | refine zR ?_ ?_ | refine zW mixed ?_ ?_); exact kr) | ((with_reducible apply zK); exact rfl; exact tf) | ((with_reducible apply zCD); exact rfl) | ((with_reducible apply zCN); exact rfl) | ((with_reducible apply zC); exact rfl) | ((with_reducible refine zX ?_ ?_); exact rfl) | ((with_reducible refine zE (And.intro ?_ ?_)); exact kr) | (with_reducible refine zE ?_) | ((with_reducible apply zP); (first | exact o_indexI (j := j) (xs := dg x.natAbs) rfl (by exact i1) (by omega) rfl | exact dp)) | ((with_reducible apply zN); exact dn) | ((with_reducible apply zA); exact da) | ((with_reducible apply zS); exact ds) | ((with_reducible apply zY); exact rfl; exact rfl; exact tf) | ((with_reducible apply zG); exact rfl; exact rfl; exact tf) | ((with_reducible apply zU); exact rfl; exact rfl) | ((with_reducible apply zD); exact rfl; exact rfl) | ((with_reducible apply zB); exact rfl; exact rfl))))
      refine wpl_turn (turns_freeze 36 (by rfl)) fun _ => ?_
      ((refine wpl_run (l1 := [_, _]) rfl ?_ ?_); exact kr; (repeat' (first | (with_reducible first | intro hg | refine mv (by constructor) ?_) | ((with_reducible first | refine zR ?_ ?_ | refine zW mixed ?_ ?_); exact kr) | ((with_reducible apply zK); exact rfl; exact tf) | ((with_reducible apply zCD); exact rfl) | ((with_reducible apply zCN); exact rfl) | ((with_reducible apply zC); exact rfl) | ((with_reducible refine zX ?_ ?_); exact rfl) | ((with_reducible refine zE (And.intro ?_ ?_)); exact kr) | (with_reducible refine zE ?_) | ((with_reducible apply zP); (first | exact dp | exact oc rfl (ht))) | ((with_reducible apply zN); exact dn) | ((with_reducible apply zA); exact da) | ((with_reducible apply zS); exact ds) | ((with_reducible apply zY); exact rfl; exact rfl; exact tf) | ((with_reducible apply zG); exact rfl; exact rfl; exact tf) | ((with_reducible apply zU); exact rfl; exact rfl) | ((with_reducible apply zD); exact rfl; exact rfl) | ((with_reducible apply zB); exact rfl; exact rfl))))
      refine wpl_nil ?_
      (repeat' (first | (with_reducible first | intro hg | refine mv (by constructor) ?_) | ((with_reducible first | refine zR ?_ ?_ | refine zW mixed ?_ ?_); exact kr) | ((with_reducible apply zK); exact rfl; exact tf) | ((with_reducible apply zCD); exact rfl) | ((with_reducible apply zCN); exact rfl) | ((with_reducible apply zC); exact rfl) | ((with_reducible refine zX ?_ ?_); exact rfl) | ((with_reducible refine zE (And.intro ?_ ?_)); exact kr) | (with_reducible refine zE ?_) | ((with_reducible apply zP); exact dp) | ((with_reducible apply zN); exact dn) | ((with_reducible apply zA); exact da) | ((with_reducible apply zS); exact ds) | ((with_reducible apply zY); exact rfl; exact rfl; exact tf) | ((with_reducible apply zG); exact rfl; exact rfl; exact tf) | ((with_reducible apply zU); exact rfl; exact rfl) | ((with_reducible apply zD); exact rfl; exact rfl) | ((with_reducible apply zB); exact rfl; exact rfl)))
      refine awp_loopL2 (fun (lo hi : Int) => [(2, .ptr 2 0), (3, .ptr 3 0), (4, .ptr 4 0), (5, .lsl 19 0 (dg x.natAbs).length 1), (6, .d (isl (dg R))), (7, .d (I (((j + 1 : Nat) : Int) - 1))), (8, .d (I lo)), (9, .d (I hi))]) (fun _ _ => [(2, ⟨93, wdC x⟩), (3, ⟨93, wdC n⟩), (4, ⟨93, [I 0, nilV]⟩), (19, ⟨3, ivs Q⟩)]) (fun lo hi => SrJ n R lo hi) (fun lo hi => (hi - lo).toNat) 0 999999999 hsr (And.intro rfl (And.intro rfl (And.intro rfl (And.intro rfl (And.intro rfl (And.intro rfl (And.intro rfl (And.intro rfl trivial)))))))) (And.intro rfl (And.intro rfl (And.intro rfl (And.intro rfl trivial)))) fun lo hi hS => ?_
      have hS0 := hS.1
      have hS1 := hS.2.1
      have hS2 := hS.2.2.1
      by_cases hlt : lo < hi
      · have hm0 : lo < (lo + hi + 1) / 2 := by omega
        have hm1 : (lo + hi + 1) / 2 ≤ hi := by omega
        have hb := bigOf_A ((lo + hi + 1) / 2) ⟨by omega, by omega⟩
        have hwm := wlen_small (q := (lo + hi + 1) / 2) ⟨by omega, by omega⟩
        have hwn : wlen (n : Int) ≤ 100000 := hy
        have hmul := wideMul_A (n : Int) ((lo + hi + 1) / 2) (by omega) (by omega)
        have hwl : (dg ((n : Int) * ((lo + hi + 1) / 2)).natAbs).length ≤ wlen (n : Int) + wlen ((lo + hi + 1) / 2) := wlen_mul (n : Int) ((lo + hi + 1) / 2)
        have hD := mul_natAbs (n := n) (q := (lo + hi + 1) / 2) (by omega)
        have hcmp := cmpDigits_A ((n : Int) * ((lo + hi + 1) / 2)).natAbs R (by omega) (by omega)
        rw [hD] at hcmp
        by_cases hle : (n : Int) * ((lo + hi + 1) / 2) ≤ R
        · have hsg := sign_le (z := (n : Int) * ((lo + hi + 1) / 2) - R) (by omega)
          have hS' := srJ_lo hS hm0 hm1 hle
          clear hS hD hle hwl hwm hwn
          (repeat' (first | (with_reducible first | intro hg | refine mv (by constructor) ?_) | ((with_reducible first | refine zR ?_ ?_ | refine zW mixed ?_ ?_); exact kr) | ((with_reducible apply zK); exact rfl; exact tf) | ((with_reducible apply zCD); exact rfl) | ((with_reducible apply zCN); exact rfl) | ((with_reducible apply zC); exact rfl) | ((with_reducible refine zX ?_ ?_); exact rfl) | ((with_reducible refine zE (And.intro ?_ ?_)); exact kr) | (with_reducible refine zE ?_) | ((with_reducible apply zP); (first | exact dp | exact oc rfl (hwo) | exact oc rfl (hb) | exact oc rfl (hmul) | exact oc rfl (hcmp))) | ((with_reducible apply zN); exact dn) | ((with_reducible apply zA); exact da) | ((with_reducible apply zS); exact ds) | ((with_reducible apply zY); exact rfl; exact rfl; exact tf) | ((with_reducible apply zG); exact rfl; exact rfl; exact tf) | ((with_reducible apply zU); exact rfl; exact rfl) | ((with_reducible apply zD); exact rfl; exact rfl) | ((with_reducible apply zB); exact rfl; exact rfl)))
          exact ⟨_, hi, hS', by omega, (And.intro rfl (And.intro rfl (And.intro rfl (And.intro rfl (And.intro rfl (And.intro rfl (And.intro rfl (And.intro rfl trivial)))))))), (And.intro rfl (And.intro rfl (And.intro rfl (And.intro rfl trivial))))⟩
        · have hsg := Int.sign_eq_one_of_pos (a := (n : Int) * ((lo + hi + 1) / 2) - R) (by omega)
          rw [hsg] at hcmp
          have hS' := srJ_hi hS hm0 hm1 hle
          clear hS hD hle hwl hwm hwn hsg
          (repeat' (first | (with_reducible first | intro hg | refine mv (by constructor) ?_) | ((with_reducible first | refine zR ?_ ?_ | refine zW mixed ?_ ?_); exact kr) | ((with_reducible apply zK); exact rfl; exact tf) | ((with_reducible apply zCD); exact rfl) | ((with_reducible apply zCN); exact rfl) | ((with_reducible apply zC); exact rfl) | ((with_reducible refine zX ?_ ?_); exact rfl) | ((with_reducible refine zE (And.intro ?_ ?_)); exact kr) | (with_reducible refine zE ?_) | ((with_reducible apply zP); (first | exact dp | exact oc rfl (hwo) | exact oc rfl (hb) | exact oc rfl (hmul) | exact oc rfl (hcmp))) | ((with_reducible apply zN); exact dn) | ((with_reducible apply zA); exact da) | ((with_reducible apply zS); exact ds) | ((with_reducible apply zY); exact rfl; exact rfl; exact tf) | ((with_reducible apply zG); exact rfl; exact rfl; exact tf) | ((with_reducible apply zU); exact rfl; exact rfl) | ((with_reducible apply zD); exact rfl; exact rfl) | ((with_reducible apply zB); exact rfl; exact rfl)))
          exact ⟨lo, _, hS', by omega, (And.intro rfl (And.intro rfl (And.intro rfl (And.intro rfl (And.intro rfl (And.intro rfl (And.intro rfl (And.intro rfl trivial)))))))), (And.intro rfl (And.intro rfl (And.intro rfl (And.intro rfl trivial))))⟩
      · obtain rfl : lo = hi := by omega
        obtain ⟨q, rfl⟩ := Int.eq_ofNat_of_zero_le hS0
        have hlo := hS.2.2.2.1
        have hhi := hS.2.2.2.2
        rw [Int.add_mul, Int.one_mul] at hhi
        have hb := bigOf_A (q : Int) ⟨by omega, by omega⟩
        have hwm := wlen_small (q := (q : Int)) ⟨by omega, by omega⟩
        have hwn : wlen (n : Int) ≤ 100000 := hy
        have hmul := wideMul_A (n : Int) (q : Int) (by omega) (by omega)
        have hD := mul_natAbs (n := n) (q := (q : Int)) (by omega)
        have hcm : (n : Int) * q = q * n := Int.mul_comm _ _
        have hsub := subDigits_A R ((n : Int) * q).natAbs (by omega) (by omega)
        have hst := hstep q (R - ((n : Int) * q).natAbs) (by omega) (by omega)
        clear hS hD hcm hlo hhi hwm hwn hstep
        (repeat' (first | (with_reducible first | intro hg | refine mv (by constructor) ?_) | ((with_reducible first | refine zR ?_ ?_ | refine zW mixed ?_ ?_); exact kr) | ((with_reducible apply zK); exact rfl; exact tf) | ((with_reducible apply zCD); exact rfl) | ((with_reducible apply zCN); exact rfl) | ((with_reducible apply zC); exact rfl) | ((with_reducible refine zX ?_ ?_); exact rfl) | ((with_reducible refine zE (And.intro ?_ ?_)); exact kr) | (with_reducible refine zE ?_) | ((with_reducible apply zP); (first | exact o_indexL (o := j) rfl (by exact i1) (by omega) (by omega) (by omega) | exact dp | exact oc rfl (hwo) | exact oc rfl (hb) | exact oc rfl (hmul) | exact oc rfl (hsub))) | ((with_reducible apply zN); exact dn) | ((with_reducible apply zA); exact da) | ((with_reducible apply zS); (first | exact o_storeLI rfl rfl rfl (by omega) | exact ds)) | ((with_reducible apply zY); exact rfl; exact rfl; exact tf) | ((with_reducible apply zG); exact rfl; exact rfl; exact tf) | ((with_reducible apply zU); exact rfl; exact rfl) | ((with_reducible apply zD); exact rfl; exact rfl) | ((with_reducible apply zB); exact rfl; exact rfl)))
        exact ⟨j, _, _, hst, by omega, (And.intro rfl (And.intro rfl (And.intro rfl (And.intro rfl (And.intro rfl (And.intro (i2) trivial)))))), (And.intro rfl (And.intro rfl (And.intro rfl (And.intro rfl trivial))))⟩

end Go.Proofs.Ytgjhikjnlcbmkaa
