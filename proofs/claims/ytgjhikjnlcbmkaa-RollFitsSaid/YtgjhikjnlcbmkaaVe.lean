/- Merged: XVd XVe. -/
import Derived.Test.YtgjhikjnlcbmkaaVc
set_option linter.unusedVariables false
set_option linter.unusedSimpArgs false
/- Whole numbers of any size: Neg, Add, Sub, Cmp, Mul: walks. -/
namespace Go.Proofs.Ytgjhikjnlcbmkaa
open Go.RowKit
set_option maxRecDepth 20000
set_option maxHeartbeats 8000000

theorem sign_bnd (x : Int) : -1 ≤ x.sign ∧ x.sign ≤ 1 := by
  rcases Int.lt_trichotomy x 0 with h | h | h
  · rw [Int.sign_eq_neg_one_of_neg h]; decide
  · rw [h]; decide
  · rw [Int.sign_eq_one_of_pos h]; decide
theorem sign_zero {x : Int} : x.sign = 0 ↔ x = 0 := Int.sign_eq_zero_iff_zero
theorem wideNeg_A (x : Int) : AC Try.prog 74 [wdV x] (wdV (-x)) := by
  have h := sign_bnd x
  have e : wdV (-x) = .agg [I (-x.sign), isl (dg x.natAbs)] := by
    show DV.agg [I (-x).sign, isl (dg (-x).natAbs)] = _
    rw [Int.sign_neg, Int.natAbs_neg]
  rw [e]
  refine ac_body Try.func74 rfl (by kernel_rfl) fun w0 ok => ?_; show AWp _ (ctx0 w0 ok _) _ (ARet _ _ _) (entry _)
  (repeat' (first | (with_reducible first | intro hg | refine mv (by constructor) ?_) | ((with_reducible first | refine zR ?_ ?_ | refine zW mixed ?_ ?_); exact kr) | ((with_reducible apply zK); exact rfl; exact tf) | ((with_reducible apply zCD); exact rfl) | ((with_reducible apply zCN); exact rfl) | ((with_reducible apply zC); exact rfl) | ((with_reducible refine zX ?_ ?_); exact rfl) | ((with_reducible refine zE (And.intro ?_ ?_)); exact kr) | (with_reducible refine zE ?_) | ((with_reducible apply zP); exact dp) | ((with_reducible apply zN); exact dn) | ((with_reducible apply zA); exact da) | ((with_reducible apply zS); exact ds) | ((with_reducible apply zY); exact rfl; exact rfl; exact tf) | ((with_reducible apply zG); exact rfl; exact rfl; exact tf) | ((with_reducible apply zU); exact rfl; exact rfl) | ((with_reducible apply zD); exact rfl; exact rfl) | ((with_reducible apply zB); exact rfl; exact rfl)))
  ((with_reducible first | apply q_retR | apply q_retN); exact rl)
  rfl
theorem wval_dg (n : Nat) : (wval (dg n)).toNat = n := by rw [dg_val]; omega
theorem wideOf_dg (s : Int) (n : Nat) (x : Int) (hm : (dg n).length ≤ 100000000) (h : x.natAbs = n) (hs : x ≠ 0 → s = x.sign) : AC Try.prog 79 [I s, isl (dg n)] (wdV x) :=
  wideOf_A s (dg n) x (dg_WDg n) hm (by rw [wval_dg]; exact h) hs
theorem ac_wide0 {P : Program} {f : FuncId} {args : List DV} (h : AC P f args (.agg [I 0, nilV])) : AC P f args (wdV 0) := by
  have ez : wdV 0 = .agg [I 0, .slice 0 []] := by
    show DV.agg [I (0 : Int).sign, isl (dg (0 : Int).natAbs)] = _
    rw [show (0 : Int).natAbs = 0 from rfl, dg_zero]; rfl
  rw [ez]
  intro ok w vs hr
  refine (h ok w vs hr).mono fun e w' ⟨v, he, hrep, hb⟩ => ⟨v, he, ?_, hb⟩
  rw [DV.rep] at hrep ⊢
  obtain ⟨us, rfl, ho, hl⟩ := hrep
  refine ⟨us, rfl, ho, ?_⟩
  obtain ⟨u1, us1, rfl, h1, h2⟩ := repL_cons.1 hl
  obtain ⟨u2, us2, rfl, h3, h4⟩ := repL_cons.1 h2
  exact repL_cons'.2 ⟨h1, repL_cons'.2 ⟨rep_nilS h3, h4⟩⟩
theorem wideAdd_A (x y : Int) (hx : wlen x ≤ 1000000) (hy : wlen y ≤ 1000000) : AC Try.prog 51 [wdV x, wdV y] (wdV (x + y)) := by
  by_cases h0 : x = 0
  · subst h0
    rw [Int.zero_add]
    have e : (0 : Int).sign = 0 := rfl
    refine ac_body Try.func51 rfl (by kernel_rfl) fun w0 ok => ?_; show AWp _ (ctx0 w0 ok _) _ (ARet _ _ _) (entry _)
    (repeat' (first | (with_reducible first | intro hg | refine mv (by constructor) ?_) | ((with_reducible first | refine zR ?_ ?_ | refine zW mixed ?_ ?_); exact kr) | ((with_reducible apply zK); exact rfl; exact tf) | ((with_reducible apply zCD); exact rfl) | ((with_reducible apply zCN); exact rfl) | ((with_reducible apply zC); exact rfl) | ((with_reducible refine zX ?_ ?_); exact rfl) | ((with_reducible refine zE (And.intro ?_ ?_)); exact kr) | (with_reducible refine zE ?_) | ((with_reducible apply zP); exact dp) | ((with_reducible apply zN); exact dn) | ((with_reducible apply zA); exact da) | ((with_reducible apply zS); exact ds) | ((with_reducible apply zY); exact rfl; exact rfl; exact tf) | ((with_reducible apply zG); exact rfl; exact rfl; exact tf) | ((with_reducible apply zU); exact rfl; exact rfl) | ((with_reducible apply zD); exact rfl; exact rfl) | ((with_reducible apply zB); exact rfl; exact rfl)))
    ((with_reducible first | apply q_retR | apply q_retN); exact rl)
    rfl
  by_cases h1 : y = 0
  · subst h1
    rw [Int.add_zero]
    have e0 : x.sign ≠ 0 := fun e => h0 (sign_zero.1 e)
    have e : (0 : Int).sign = 0 := rfl
    refine ac_body Try.func51 rfl (by kernel_rfl) fun w0 ok => ?_; show AWp _ (ctx0 w0 ok _) _ (ARet _ _ _) (entry _)
    (repeat' (first | (with_reducible first | intro hg | refine mv (by constructor) ?_) | ((with_reducible first | refine zR ?_ ?_ | refine zW mixed ?_ ?_); exact kr) | ((with_reducible apply zK); exact rfl; exact tf) | ((with_reducible apply zCD); exact rfl) | ((with_reducible apply zCN); exact rfl) | ((with_reducible apply zC); exact rfl) | ((with_reducible refine zX ?_ ?_); exact rfl) | ((with_reducible refine zE (And.intro ?_ ?_)); exact kr) | (with_reducible refine zE ?_) | ((with_reducible apply zP); exact dp) | ((with_reducible apply zN); exact dn) | ((with_reducible apply zA); exact da) | ((with_reducible apply zS); exact ds) | ((with_reducible apply zY); exact rfl; exact rfl; exact tf) | ((with_reducible apply zG); exact rfl; exact rfl; exact tf) | ((with_reducible apply zU); exact rfl; exact rfl) | ((with_reducible apply zD); exact rfl; exact rfl) | ((with_reducible apply zB); exact rfl; exact rfl)))
    ((with_reducible first | apply q_retR | apply q_retN); exact rl)
    rfl
  have s0 : x.sign ≠ 0 := fun e => h0 (sign_zero.1 e)
  have s1 : y.sign ≠ 0 := fun e => h1 (sign_zero.1 e)
  have hx : (dg x.natAbs).length ≤ 1000000 := hx
  have hy : (dg y.natAbs).length ≤ 1000000 := hy
  have hxs := Int.sign_eq_one_of_pos (a := x)
  have hxn := Int.sign_eq_neg_one_of_neg (a := x)
  have hys := Int.sign_eq_one_of_pos (a := y)
  have hyn := Int.sign_eq_neg_one_of_neg (a := y)
  by_cases hs : x.sign = y.sign
  · have hab : (x + y).natAbs = x.natAbs + y.natAbs := by omega
    have hsg : x.sign = (x + y).sign := by
      rcases Int.lt_trichotomy x 0 with h | h | h
      · rw [hxn h, Int.sign_eq_neg_one_of_neg (by omega)]
      · omega
      · rw [hxs h, Int.sign_eq_one_of_pos (by omega)]
    have a1 := addDigits_A x.natAbs y.natAbs hx hy
    have hl := dg_len_add x.natAbs y.natAbs
    have a2 := wideOf_dg x.sign (x.natAbs + y.natAbs) (x + y) (by omega) hab (fun _ => hsg)
    clear hab hsg hxs hxn hys hyn
    refine ac_body Try.func51 rfl (by kernel_rfl) fun w0 ok => ?_; show AWp _ (ctx0 w0 ok _) _ (ARet _ _ _) (entry _)
    (repeat' (first | (with_reducible first | intro hg | refine mv (by constructor) ?_) | ((with_reducible first | refine zR ?_ ?_ | refine zW mixed ?_ ?_); exact kr) | ((with_reducible apply zK); exact rfl; exact tf) | ((with_reducible apply zCD); exact rfl) | ((with_reducible apply zCN); exact rfl) | ((with_reducible apply zC); exact rfl) | ((with_reducible refine zX ?_ ?_); exact rfl) | ((with_reducible refine zE (And.intro ?_ ?_)); exact kr) | (with_reducible refine zE ?_) | ((with_reducible apply zP); (first | exact dp | exact oc rfl (a1) | exact oc rfl (a2))) | ((with_reducible apply zN); exact dn) | ((with_reducible apply zA); exact da) | ((with_reducible apply zS); exact ds) | ((with_reducible apply zY); exact rfl; exact rfl; exact tf) | ((with_reducible apply zG); exact rfl; exact rfl; exact tf) | ((with_reducible apply zU); exact rfl; exact rfl) | ((with_reducible apply zD); exact rfl; exact rfl) | ((with_reducible apply zB); exact rfl; exact rfl)))
    ((with_reducible first | apply q_retR | apply q_retN); exact rl)
    rfl
  have a1 := cmpDigits_A x.natAbs y.natAbs (by omega) (by omega)
  rcases Nat.lt_trichotomy x.natAbs y.natAbs with hlt | heq | hgt
  · rw [Int.sign_eq_neg_one_of_neg (by omega)] at a1
    have hab : (x + y).natAbs = y.natAbs - x.natAbs := by omega
    have hsg : y.sign = (x + y).sign := by
      rcases Int.lt_trichotomy y 0 with h | h | h
      · rw [hyn h, Int.sign_eq_neg_one_of_neg (by omega)]
      · omega
      · rw [hys h, Int.sign_eq_one_of_pos (by omega)]
    have a2 := subDigits_A y.natAbs x.natAbs (by omega) hy
    have hl := dg_len_mono (m := y.natAbs - x.natAbs) (n := y.natAbs) (by omega)
    have a3 := wideOf_dg y.sign (y.natAbs - x.natAbs) (x + y) (by omega) hab (fun _ => hsg)
    clear hab hsg hxs hxn hys hyn
    refine ac_body Try.func51 rfl (by kernel_rfl) fun w0 ok => ?_; show AWp _ (ctx0 w0 ok _) _ (ARet _ _ _) (entry _)
    (repeat' (first | (with_reducible first | intro hg | refine mv (by constructor) ?_) | ((with_reducible first | refine zR ?_ ?_ | refine zW mixed ?_ ?_); exact kr) | ((with_reducible apply zK); exact rfl; exact tf) | ((with_reducible apply zCD); exact rfl) | ((with_reducible apply zCN); exact rfl) | ((with_reducible apply zC); exact rfl) | ((with_reducible refine zX ?_ ?_); exact rfl) | ((with_reducible refine zE (And.intro ?_ ?_)); exact kr) | (with_reducible refine zE ?_) | ((with_reducible apply zP); (first | exact dp | exact oc rfl (a1) | exact oc rfl (a2) | exact oc rfl (a3))) | ((with_reducible apply zN); exact dn) | ((with_reducible apply zA); exact da) | ((with_reducible apply zS); exact ds) | ((with_reducible apply zY); exact rfl; exact rfl; exact tf) | ((with_reducible apply zG); exact rfl; exact rfl; exact tf) | ((with_reducible apply zU); exact rfl; exact rfl) | ((with_reducible apply zD); exact rfl; exact rfl) | ((with_reducible apply zB); exact rfl; exact rfl)))
    ((with_reducible first | apply q_retR | apply q_retN); exact rl)
    rfl
  · have e0 : ((x.natAbs : Int) - y.natAbs).sign = 0 := by rw [heq, Int.sub_self]; rfl
    rw [e0] at a1
    have e : x + y = 0 := by omega
    rw [e]
    refine ac_wide0 ?_
    refine ac_body Try.func51 rfl (by kernel_rfl) fun w0 ok => ?_; show AWp _ (ctx0 w0 ok _) _ (ARet _ _ _) (entry _)
    (repeat' (first | (with_reducible first | intro hg | refine mv (by constructor) ?_) | ((with_reducible first | refine zR ?_ ?_ | refine zW mixed ?_ ?_); exact kr) | ((with_reducible apply zK); exact rfl; exact tf) | ((with_reducible apply zCD); exact rfl) | ((with_reducible apply zCN); exact rfl) | ((with_reducible apply zC); exact rfl) | ((with_reducible refine zX ?_ ?_); exact rfl) | ((with_reducible refine zE (And.intro ?_ ?_)); exact kr) | (with_reducible refine zE ?_) | ((with_reducible apply zP); (first | exact dp | exact oc rfl (a1))) | ((with_reducible apply zN); exact dn) | ((with_reducible apply zA); exact da) | ((with_reducible apply zS); exact ds) | ((with_reducible apply zY); exact rfl; exact rfl; exact tf) | ((with_reducible apply zG); exact rfl; exact rfl; exact tf) | ((with_reducible apply zU); exact rfl; exact rfl) | ((with_reducible apply zD); exact rfl; exact rfl) | ((with_reducible apply zB); exact rfl; exact rfl)))
    ((with_reducible first | apply q_retR | apply q_retN); exact rl)
    rfl
  · rw [Int.sign_eq_one_of_pos (by omega)] at a1
    have hab : (x + y).natAbs = x.natAbs - y.natAbs := by omega
    have hsg : x.sign = (x + y).sign := by
      rcases Int.lt_trichotomy x 0 with h | h | h
      · rw [hxn h, Int.sign_eq_neg_one_of_neg (by omega)]
      · omega
      · rw [hxs h, Int.sign_eq_one_of_pos (by omega)]
    have a2 := subDigits_A x.natAbs y.natAbs (by omega) hx
    have hl := dg_len_mono (m := x.natAbs - y.natAbs) (n := x.natAbs) (by omega)
    have a3 := wideOf_dg x.sign (x.natAbs - y.natAbs) (x + y) (by omega) hab (fun _ => hsg)
    clear hab hsg hxs hxn hys hyn
    refine ac_body Try.func51 rfl (by kernel_rfl) fun w0 ok => ?_; show AWp _ (ctx0 w0 ok _) _ (ARet _ _ _) (entry _)
    (repeat' (first | (with_reducible first | intro hg | refine mv (by constructor) ?_) | ((with_reducible first | refine zR ?_ ?_ | refine zW mixed ?_ ?_); exact kr) | ((with_reducible apply zK); exact rfl; exact tf) | ((with_reducible apply zCD); exact rfl) | ((with_reducible apply zCN); exact rfl) | ((with_reducible apply zC); exact rfl) | ((with_reducible refine zX ?_ ?_); exact rfl) | ((with_reducible refine zE (And.intro ?_ ?_)); exact kr) | (with_reducible refine zE ?_) | ((with_reducible apply zP); (first | exact dp | exact oc rfl (a1) | exact oc rfl (a2) | exact oc rfl (a3))) | ((with_reducible apply zN); exact dn) | ((with_reducible apply zA); exact da) | ((with_reducible apply zS); exact ds) | ((with_reducible apply zY); exact rfl; exact rfl; exact tf) | ((with_reducible apply zG); exact rfl; exact rfl; exact tf) | ((with_reducible apply zU); exact rfl; exact rfl) | ((with_reducible apply zD); exact rfl; exact rfl) | ((with_reducible apply zB); exact rfl; exact rfl)))
    ((with_reducible first | apply q_retR | apply q_retN); exact rl)
    rfl
theorem wlen_neg (x : Int) : wlen (-x) = wlen x := by show (dg (-x).natAbs).length = _; rw [Int.natAbs_neg]
theorem wideSub_A (x y : Int) (hx : wlen x ≤ 1000000) (hy : wlen y ≤ 1000000) : AC Try.prog 95 [wdV x, wdV y] (wdV (x - y)) := by
  have a1 := wideNeg_A y
  have a2 := wideAdd_A x (-y) hx (by rw [wlen_neg]; exact hy)
  rw [Int.sub_eq_add_neg]
  refine ac_body Try.func95 rfl (by kernel_rfl) fun w0 ok => ?_; show AWp _ (ctx0 w0 ok _) _ (ARet _ _ _) (entry _)
  (repeat' (first | (with_reducible first | intro hg | refine mv (by constructor) ?_) | ((with_reducible first | refine zR ?_ ?_ | refine zW mixed ?_ ?_); exact kr) | ((with_reducible apply zK); exact rfl; exact tf) | ((with_reducible apply zCD); exact rfl) | ((with_reducible apply zCN); exact rfl) | ((with_reducible apply zC); exact rfl) | ((with_reducible refine zX ?_ ?_); exact rfl) | ((with_reducible refine zE (And.intro ?_ ?_)); exact kr) | (with_reducible refine zE ?_) | ((with_reducible apply zP); (first | exact dp | exact oc rfl (a1) | exact oc rfl (a2))) | ((with_reducible apply zN); exact dn) | ((with_reducible apply zA); exact da) | ((with_reducible apply zS); exact ds) | ((with_reducible apply zY); exact rfl; exact rfl; exact tf) | ((with_reducible apply zG); exact rfl; exact rfl; exact tf) | ((with_reducible apply zU); exact rfl; exact rfl) | ((with_reducible apply zD); exact rfl; exact rfl) | ((with_reducible apply zB); exact rfl; exact rfl)))
  ((with_reducible first | apply q_retR | apply q_retN); exact rl)
  rfl
theorem wideSign_A (x : Int) : AC Try.prog 52 [wdV x] (I x.sign) := by
  refine ac_body Try.func52 rfl (by kernel_rfl) fun w0 ok => ?_; show AWp _ (ctx0 w0 ok _) _ (ARet _ _ _) (entry _)
  (repeat' (first | (with_reducible first | intro hg | refine mv (by constructor) ?_) | ((with_reducible first | refine zR ?_ ?_ | refine zW mixed ?_ ?_); exact kr) | ((with_reducible apply zK); exact rfl; exact tf) | ((with_reducible apply zCD); exact rfl) | ((with_reducible apply zCN); exact rfl) | ((with_reducible apply zC); exact rfl) | ((with_reducible refine zX ?_ ?_); exact rfl) | ((with_reducible refine zE (And.intro ?_ ?_)); exact kr) | (with_reducible refine zE ?_) | ((with_reducible apply zP); exact dp) | ((with_reducible apply zN); exact dn) | ((with_reducible apply zA); exact da) | ((with_reducible apply zS); exact ds) | ((with_reducible apply zY); exact rfl; exact rfl; exact tf) | ((with_reducible apply zG); exact rfl; exact rfl; exact tf) | ((with_reducible apply zU); exact rfl; exact rfl) | ((with_reducible apply zD); exact rfl; exact rfl) | ((with_reducible apply zB); exact rfl; exact rfl)))
  ((with_reducible first | apply q_retR | apply q_retN); exact rl)
  rfl
theorem wideCmp_A (x y : Int) (hx : wlen x ≤ 1000000) (hy : wlen y ≤ 1000000) : AC Try.prog 76 [wdV x, wdV y] (I (x - y).sign) := by
  have a1 := wideSub_A x y hx hy
  refine ac_body Try.func76 rfl (by kernel_rfl) fun w0 ok => ?_; show AWp _ (ctx0 w0 ok _) _ (ARet _ _ _) (entry _)
  (repeat' (first | (with_reducible first | intro hg | refine mv (by constructor) ?_) | ((with_reducible first | refine zR ?_ ?_ | refine zW mixed ?_ ?_); exact kr) | ((with_reducible apply zK); exact rfl; exact tf) | ((with_reducible apply zCD); exact rfl) | ((with_reducible apply zCN); exact rfl) | ((with_reducible apply zC); exact rfl) | ((with_reducible refine zX ?_ ?_); exact rfl) | ((with_reducible refine zE (And.intro ?_ ?_)); exact kr) | (with_reducible refine zE ?_) | ((with_reducible apply zP); (first | exact dp | exact oc rfl (a1))) | ((with_reducible apply zN); exact dn) | ((with_reducible apply zA); exact da) | ((with_reducible apply zS); exact ds) | ((with_reducible apply zY); exact rfl; exact rfl; exact tf) | ((with_reducible apply zG); exact rfl; exact rfl; exact tf) | ((with_reducible apply zU); exact rfl; exact rfl) | ((with_reducible apply zD); exact rfl; exact rfl) | ((with_reducible apply zB); exact rfl; exact rfl)))
  ((with_reducible first | apply q_retR | apply q_retN); exact rl)
  rfl

end Go.Proofs.Ytgjhikjnlcbmkaa

/- Whole numbers of any size: products. -/
namespace Go.Proofs.Ytgjhikjnlcbmkaa
open Go.RowKit
set_option maxRecDepth 20000
set_option maxHeartbeats 8000000

theorem wval_set : ∀ (l : List Int) (i : Nat) (d : Int), i < l.length → wval (l.set i d) = wval l + (1000000000 : Int) ^ i * (d - nth l i)
  | x :: l, 0, d, _ => by
    show d + 1000000000 * wval l = x + 1000000000 * wval l + (1000000000 : Int) ^ 0 * (d - x)
    rw [Int.pow_zero]; omega
  | x :: l, i + 1, d, h => by
    show x + 1000000000 * wval (l.set i d) = x + 1000000000 * wval l + (1000000000 : Int) ^ (i + 1) * (d - nth l i)
    rw [wval_set l i d (by simpa using h), wpow_succ, Int.mul_add, Int.mul_assoc, Int.add_assoc]
theorem WDg.set {l : List Int} (h : WDg l) (i : Nat) {d : Int} (hd : 0 ≤ d ∧ d < 1000000000) : WDg (l.set i d) := fun x hx => by
  rcases List.mem_or_eq_of_mem_set hx with hx | rfl
  · exact h x hx
  · exact hd
theorem nth_set_ne {l : List Int} {i j : Nat} (h : i ≠ j) (d : Int) : nth (l.set i d) j = nth l j := by
  unfold nth
  rw [List.getD_eq_getElem?_getD, List.getD_eq_getElem?_getD, List.getElem?_set_ne h]
theorem mulB {a b : Int} (ha : 0 ≤ a ∧ a < 1000000000) (hb : 0 ≤ b ∧ b < 1000000000) : 0 ≤ a * b ∧ a * b ≤ 999999998000000001 := by
  have h1 : a * b ≤ a * 999999999 := Int.mul_le_mul_of_nonneg_left (by omega) ha.1
  have h2 : 0 ≤ a * b := Int.mul_nonneg ha.1 hb.1
  omega
def MulJ (m n : Nat) (k : Nat) (O : List Int) : Prop := WDg O ∧ O.length = (dg m).length + (dg n).length + 1 ∧ k ≤ (dg m).length ∧ (∀ j, k + (dg n).length ≤ j → nth O j = 0) ∧ ∃ u : Nat, (dg m).drop k = dg u ∧ wval O + (1000000000 : Int) ^ k * ((u : Int) * n) = ((m * n : Nat) : Int)
def MulI (m n k : Nat) (W : Int) (j : Nat) (c : Int) (O : List Int) : Prop := WDg O ∧ O.length = (dg m).length + (dg n).length + 1 ∧ j ≤ (dg n).length ∧ (0 ≤ c ∧ c < 1000000000) ∧ (∀ i, k + (dg n).length ≤ i → nth O i = 0) ∧ ∃ v : Nat, (dg n).drop j = dg v ∧ wval O + (1000000000 : Int) ^ (k + j) * (nth (dg m) k * v + c) = W
theorem mulI_start {m n k : Nat} {O : List Int} (h : MulJ m n k O) : MulI m n k (wval O + (1000000000 : Int) ^ k * (nth (dg m) k * n)) 0 0 O := by
  obtain ⟨h1, h2, _, h3, _⟩ := h
  exact ⟨h1, h2, Nat.zero_le _, ⟨by decide, by decide⟩, h3, n, rfl, by rw [Int.add_zero, Nat.add_zero]⟩
theorem mulI_alg {w Z a b v o c s r q W : Int} (h : w + Z * (a * (b + 1000000000 * v) + c) = W) (hs : s = o + a * b + c) (hr : s = r + 1000000000 * q) : w + Z * (r - o) + 1000000000 * Z * (a * v + q) = W := by
  have e : a * (b + 1000000000 * v) + c = (r - o) + 1000000000 * (a * v + q) := by
    have : r = s - 1000000000 * q := by omega
    rw [this, hs]; grind
  rw [e] at h
  rw [← h]; grind
theorem mulI_step {m n k : Nat} {W : Int} {j : Nat} {c : Int} {O : List Int} (h : MulI m n k W j c O) (hj : j < (dg n).length) (hk : k < (dg m).length) : MulI m n k W (j + 1) ((nth O (k + j) + nth (dg m) k * nth (dg n) j + c) / 1000000000) (O.set (k + j) ((nth O (k + j) + nth (dg m) k * nth (dg n) j + c) % 1000000000)) := by
  obtain ⟨h1, h2, h3, h4, h5, v, h6, h7⟩ := h
  have b1 := h1.nth (k + j)
  have b2 := mulB ((dg_WDg m).nth k) ((dg_WDg n).nth j)
  have hv : (v : Int) = nth (dg n) j + 1000000000 * ((v / 1000000000 : Nat) : Int) := by rw [dg_nth h6]; omega
  rw [hv] at h7
  refine ⟨h1.set _ ⟨by omega, by omega⟩, by rw [List.length_set]; exact h2, hj, ⟨by omega, by omega⟩, fun i hi => ?_, v / 1000000000, dg_drop h6, ?_⟩
  · rw [nth_set_ne (by omega)]; exact h5 i hi
  · rw [wval_set _ _ _ (by omega), show k + (j + 1) = k + j + 1 by omega, wpow_succ]
    exact mulI_alg h7 rfl (by omega)
theorem mulJ_step {m n k : Nat} {O O' : List Int} {c : Int} (h : MulJ m n k O) (hk : k < (dg m).length) (h' : MulI m n k (wval O + (1000000000 : Int) ^ k * (nth (dg m) k * n)) (dg n).length c O') : MulJ m n (k + 1) (O'.set (k + (dg n).length) (nth O' (k + (dg n).length) + c)) := by
  obtain ⟨g1, g2, g3, g4, u, g5, g6⟩ := h
  obtain ⟨h1, h2, h3, h4, h5, v, h6, h7⟩ := h'
  have hz := h5 (k + (dg n).length) (Nat.le_refl _)
  have hv : v = 0 := by
    rw [List.drop_of_length_le (Nat.le_refl _)] at h6
    exact dg_nil.1 h6.symm
  rw [hv] at h7
  have hu : (u : Int) = nth (dg m) k + 1000000000 * ((u / 1000000000 : Nat) : Int) := by rw [dg_nth g5]; omega
  refine ⟨h1.set _ (by rw [hz]; omega), by rw [List.length_set]; exact h2, hk, fun i hi => ?_, u / 1000000000, dg_drop g5, ?_⟩
  · rw [nth_set_ne (by omega)]; exact h5 i (by omega)
  · rw [wval_set _ _ _ (by omega), hz, wpow_succ, ← g6, hu]
    have h7 : wval O' + (1000000000 : Int) ^ (k + (dg n).length) * (nth (dg m) k * 0 + c) = wval O + (1000000000 : Int) ^ k * (nth (dg m) k * n) := h7
    rw [Int.mul_zero, Int.zero_add] at h7
    rw [Int.zero_add, Int.sub_zero, h7]
    generalize (1000000000 : Int) ^ k = Z
    generalize nth (dg m) k = a
    generalize ((u / 1000000000 : Nat) : Int) = b
    grind
theorem mulJ_end {m n : Nat} {O : List Int} (h : MulJ m n (dg m).length O) : wval O = ((m * n : Nat) : Int) := by
  obtain ⟨g1, g2, g3, g4, u, g5, g6⟩ := h
  have hu : u = 0 := by
    rw [List.drop_of_length_le (Nat.le_refl _)] at g5
    exact dg_nil.1 g5.symm
  subst hu
  have g6 : wval O + (1000000000 : Int) ^ (dg m).length * (0 * n) = ((m * n : Nat) : Int) := g6
  rw [Int.zero_mul, Int.mul_zero, Int.add_zero] at g6
  exact g6
theorem zeros_wval (n : Nat) : wval (List.replicate n 0) = 0 := wval_zeros fun d hd => (List.mem_replicate.1 hd).2
theorem nth_zeros (n j : Nat) : nth (List.replicate n (0 : Int)) j = 0 := by
  unfold nth
  rw [List.getD_eq_getElem?_getD]
  by_cases h : j < n
  · rw [List.getElem?_replicate_of_lt h]; rfl
  · rw [List.getElem?_eq_none (by simp; omega)]; rfl
theorem zeros_ivs (n : Nat) : (zeros [.int .i64 0] (n * 1)).map DV.val = ivs (List.replicate n 0) := by
  refine ((List.eq_replicate_iff.2 ⟨by simp [zeros], fun b hb => ?_⟩ : _ = List.replicate n (I 0))).trans (by simp [ivs])
  obtain ⟨x, hx, rfl⟩ := List.mem_map.1 hb
  obtain ⟨i, _, rfl⟩ := List.mem_map.1 hx
  show DV.val ([Value.int .i64 0][i % 1]?.getD undef) = _
  rw [Nat.mod_one]; rfl
theorem mulJ_start (m n : Nat) : MulJ m n 0 (List.replicate ((dg m).length + (dg n).length + 1) 0) :=
  ⟨fun d hd => by rw [(List.mem_replicate.1 hd).2]; decide, List.length_replicate, Nat.zero_le _, fun j _ => nth_zeros _ j, m, rfl, by rw [zeros_wval, Int.pow_zero, Int.one_mul, Int.zero_add, Int.natCast_mul]⟩
theorem wideMul_A (x y : Int) (hx : wlen x ≤ 1000000) (hy : wlen y ≤ 1000000) : AC Try.prog 73 [wdV x, wdV y] (wdV (x * y)) := by
  have hx : (dg x.natAbs).length ≤ 1000000 := hx
  have hy : (dg y.natAbs).length ≤ 1000000 := hy
  have sx := sign_bnd x
  have sy := sign_bnd y
  have sxy : -1 ≤ x.sign * y.sign ∧ x.sign * y.sign ≤ 1 := by rw [← Int.sign_mul]; exact sign_bnd _
  have iN : AV.d (I (((dg x.natAbs).length : Int) + ((dg y.natAbs).length : Int) + 1)) = AV.d (I (((dg x.natAbs).length + (dg y.natAbs).length + 1 : Nat) : Int)) := congrArg (fun n => AV.d (I n)) (by omega)
  refine ac_body Try.func73 rfl (by kernel_rfl) fun w0 ok => ?_; show AWp _ (ctx0 w0 ok _) _ (ARet _ _ _) (entry _)
  (repeat' (first | (with_reducible first | intro hg | refine mv (by constructor) ?_) | ((with_reducible first | refine zR ?_ ?_ | refine zW mixed ?_ ?_); exact kr) | ((with_reducible apply zK); exact rfl; exact tf) | ((with_reducible apply zCD); exact rfl) | ((with_reducible apply zCN); exact rfl) | ((with_reducible apply zC); exact rfl) | ((with_reducible refine zX ?_ ?_); exact rfl) | ((with_reducible refine zE (And.intro ?_ ?_)); exact kr) | (with_reducible refine zE ?_) | ((with_reducible apply zP); exact dp) | ((with_reducible apply zN); (first | exact dn | exact o_makeSl (by exact iN) (by omega) (by omega) rfl)) | ((with_reducible apply zA); exact da) | ((with_reducible apply zS); exact ds) | ((with_reducible apply zY); exact rfl; exact rfl; exact tf) | ((with_reducible apply zG); exact rfl; exact rfl; exact tf) | ((with_reducible apply zU); exact rfl; exact rfl) | ((with_reducible apply zD); exact rfl; exact rfl) | ((with_reducible apply zB); exact rfl; exact rfl)))
  refine awp_loopL2 (fun (k : Nat) (_ : List Int) => [(2, .ptr 2 0), (3, .ptr 3 0), (4, .ptr 4 0), (5, .lsl 18 0 ((dg x.natAbs).length + (dg y.natAbs).length + 1) 1), (6, .d (I k))]) (fun _ O => [(2, ⟨93, wdC x⟩), (3, ⟨93, wdC y⟩), (4, ⟨93, [I 0, nilV]⟩), (18, ⟨3, ivs O⟩)]) (fun k O => MulJ x.natAbs y.natAbs k O) (fun k _ => (dg x.natAbs).length - k) 0 (List.replicate ((dg x.natAbs).length + (dg y.natAbs).length + 1) 0) (mulJ_start _ _) (And.intro rfl (And.intro rfl (And.intro rfl (And.intro rfl (And.intro rfl trivial))))) (And.intro rfl (And.intro rfl (And.intro rfl (And.intro (congrArg (fun l => some (Blk.mk _ l)) (zeros_ivs _)) trivial)))) fun k O hJ => ?_
  have hOl := hJ.2.1
  by_cases hk : k < (dg x.natAbs).length
  rotate_left
  · obtain rfl : k = (dg x.natAbs).length := by have := hJ.2.2.1; omega
    have e := mulJ_end hJ
    have ha : (x * y).natAbs = (wval O).toNat := by rw [e, Int.natAbs_mul]; omega
    have hw := wideOf_A (x.sign * y.sign) O (x * y) hJ.1 (by omega) ha (fun _ => (Int.sign_mul _ _).symm)
    clear hJ e ha
    refine awp_ownL 5 18 (t := 3) O (by rw [← hOl]; rcases O with _ | ⟨o, O⟩ <;> first | (simp at hOl; done) | rfl) (fun x k hk => rfl) ?_
    (repeat' (first | (with_reducible first | intro hg | refine mv (by constructor) ?_) | ((with_reducible first | refine zR ?_ ?_ | refine zW mixed ?_ ?_); exact kr) | ((with_reducible apply zK); exact rfl; exact tf) | ((with_reducible apply zCD); exact rfl) | ((with_reducible apply zCN); exact rfl) | ((with_reducible apply zC); exact rfl) | ((with_reducible refine zX ?_ ?_); exact rfl) | ((with_reducible refine zE (And.intro ?_ ?_)); exact kr) | (with_reducible refine zE ?_) | ((with_reducible apply zP); (first | exact dp | exact oc rfl (hw))) | ((with_reducible apply zN); exact dn) | ((with_reducible apply zA); exact da) | ((with_reducible apply zS); exact ds) | ((with_reducible apply zY); exact rfl; exact rfl; exact tf) | ((with_reducible apply zG); exact rfl; exact rfl; exact tf) | ((with_reducible apply zU); exact rfl; exact rfl) | ((with_reducible apply zD); exact rfl; exact rfl) | ((with_reducible apply zB); exact rfl; exact rfl)))
    ((with_reducible first | apply q_retR | apply q_retN); exact rl)
    rfl
  · (repeat' (first | (with_reducible first | intro hg | refine mv (by constructor) ?_) | ((with_reducible first | refine zR ?_ ?_ | refine zW mixed ?_ ?_); exact kr) | ((with_reducible apply zK); exact rfl; exact tf) | ((with_reducible apply zCD); exact rfl) | ((with_reducible apply zCN); exact rfl) | ((with_reducible apply zC); exact rfl) | ((with_reducible refine zX ?_ ?_); exact rfl) | ((with_reducible refine zE (And.intro ?_ ?_)); exact kr) | (with_reducible refine zE ?_) | ((with_reducible apply zP); exact dp) | ((with_reducible apply zN); exact dn) | ((with_reducible apply zA); exact da) | ((with_reducible apply zS); exact ds) | ((with_reducible apply zY); exact rfl; exact rfl; exact tf) | ((with_reducible apply zG); exact rfl; exact rfl; exact tf) | ((with_reducible apply zU); exact rfl; exact rfl) | ((with_reducible apply zD); exact rfl; exact rfl) | ((with_reducible apply zB); exact rfl; exact rfl)))
    refine awp_loopL3 (fun (j : Nat) (c : Int) (_ : List Int) => [(2, .ptr 2 0), (3, .ptr 3 0), (4, .ptr 4 0), (5, .lsl 18 0 ((dg x.natAbs).length + (dg y.natAbs).length + 1) 1), (6, .d (I k)), (7, .d (I c)), (8, .d (I j))]) (fun _ _ O => [(2, ⟨93, wdC x⟩), (3, ⟨93, wdC y⟩), (4, ⟨93, [I 0, nilV]⟩), (18, ⟨3, ivs O⟩)]) (fun j c P => MulI x.natAbs y.natAbs k (wval O + (1000000000 : Int) ^ k * (nth (dg x.natAbs) k * y.natAbs)) j c P) (fun j _ _ => (dg y.natAbs).length - j) 0 0 O (mulI_start hJ) (And.intro rfl (And.intro rfl (And.intro rfl (And.intro rfl (And.intro rfl (And.intro rfl (And.intro rfl trivial))))))) (And.intro rfl (And.intro rfl (And.intro rfl (And.intro rfl trivial)))) fun j c P hI => ?_
    have hPl := hI.2.1
    have hjl := hI.2.2.1
    have hcb := hI.2.2.2.1
    by_cases hj : j < (dg y.natAbs).length
    · have hI' := mulI_step hI hj hk
      have b1 := hI.1.nth (k + j)
      have b2 := mulB ((dg_WDg x.natAbs).nth k) ((dg_WDg y.natAbs).nth j)
      clear hI hJ
      (repeat' (first | (with_reducible first | intro hg | refine mv (by constructor) ?_) | ((with_reducible first | refine zR ?_ ?_ | refine zW mixed ?_ ?_); exact kr) | ((with_reducible apply zK); exact rfl; exact tf) | ((with_reducible apply zCD); exact rfl) | ((with_reducible apply zCN); exact rfl) | ((with_reducible apply zC); exact rfl) | ((with_reducible refine zX ?_ ?_); exact rfl) | ((with_reducible refine zE (And.intro ?_ ?_)); exact kr) | (with_reducible refine zE ?_) | ((with_reducible apply zP); (first | exact o_indexL (o := k + j) rfl rfl (by omega) (by omega) (by omega) | exact o_indexI (j := k) (xs := dg x.natAbs) rfl rfl (by omega) rfl | exact o_indexI (j := j) (xs := dg y.natAbs) rfl rfl (by omega) rfl | exact dp)) | ((with_reducible apply zN); exact dn) | ((with_reducible apply zA); exact da) | ((with_reducible apply zS); (first | exact o_storeLI rfl rfl rfl (by omega) | exact ds)) | ((with_reducible apply zY); exact rfl; exact rfl; exact tf) | ((with_reducible apply zG); exact rfl; exact rfl; exact tf) | ((with_reducible apply zU); exact rfl; exact rfl) | ((with_reducible apply zD); exact rfl; exact rfl) | ((with_reducible apply zB); exact rfl; exact rfl)))
      exact ⟨j + 1, _, _, hI', by omega, (And.intro rfl (And.intro rfl (And.intro rfl (And.intro rfl (And.intro rfl (And.intro rfl (And.intro rfl trivial))))))), (And.intro rfl (And.intro rfl (And.intro rfl (And.intro rfl trivial))))⟩
    · obtain rfl : j = (dg y.natAbs).length := by omega
      have hJ' := mulJ_step hJ hk hI
      have hz := hI.2.2.2.2.1 (k + (dg y.natAbs).length) (Nat.le_refl _)
      clear hI hJ
      (repeat' (first | (with_reducible first | intro hg | refine mv (by constructor) ?_) | ((with_reducible first | refine zR ?_ ?_ | refine zW mixed ?_ ?_); exact kr) | ((with_reducible apply zK); exact rfl; exact tf) | ((with_reducible apply zCD); exact rfl) | ((with_reducible apply zCN); exact rfl) | ((with_reducible apply zC); exact rfl) | ((with_reducible refine zX ?_ ?_); exact rfl) | ((with_reducible refine zE (And.intro ?_ ?_)); exact kr) | (with_reducible refine zE ?_) | ((with_reducible apply zP); (first | exact o_indexL (o := k + (dg y.natAbs).length) rfl rfl (by omega) (by omega) (by omega) | exact dp)) | ((with_reducible apply zN); exact dn) | ((with_reducible apply zA); exact da) | ((with_reducible apply zS); (first | exact o_storeLI rfl rfl rfl (by omega) | exact ds)) | ((with_reducible apply zY); exact rfl; exact rfl; exact tf) | ((with_reducible apply zG); exact rfl; exact rfl; exact tf) | ((with_reducible apply zU); exact rfl; exact rfl) | ((with_reducible apply zD); exact rfl; exact rfl) | ((with_reducible apply zB); exact rfl; exact rfl)))
      exact ⟨k + 1, _, hJ', by omega, (And.intro rfl (And.intro rfl (And.intro rfl (And.intro rfl (And.intro rfl trivial))))), (And.intro rfl (And.intro rfl (And.intro rfl (And.intro rfl trivial))))⟩

end Go.Proofs.Ytgjhikjnlcbmkaa
