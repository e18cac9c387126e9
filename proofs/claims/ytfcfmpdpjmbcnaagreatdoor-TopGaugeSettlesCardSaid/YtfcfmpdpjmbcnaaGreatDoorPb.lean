/- Base functions: numbers, errors, slices of numbers. -/
import Derived.Test.YtfcfmpdpjmbcnaaGreatDoorM9
set_option linter.unusedVariables false
set_option linter.unusedSimpArgs false
namespace Go.Proofs.YtfcfmpdpjmbcnaaGreatDoor
open Go.RowKit
set_option maxRecDepth 20000

def unl (b : Bool) (n : Int) : Int := bif b then 0 else n

def fst0 : List Int → Int
  | [] => 0
  | x :: l => bif x == 0 then fst0 l else x

theorem fst0_zero (l : List Int) : fst0 (0 :: l) = fst0 l := rfl
theorem fst0_ne {x : Int} (h : x ≠ 0) (l : List Int) : fst0 (x :: l) = x := by
  have : (x == 0) = false := by simp [h]
  simp only [fst0, this]; rfl
theorem fst0_one (x : Int) : fst0 [x] = x := by
  by_cases h : x = 0
  · rw [h]; rfl
  · exact fst0_ne h _

def low (n d : Int) : Int × Int := (n.tdiv (Int.gcd n d), d / (Int.gcd n d))
abbrev F2 (f : Int × Int) : DV := .agg [I f.1, I f.2]
def idxF (p : Int → Bool) : List Int → Nat → Int
  | [], _ => -1
  | x :: l, k => bif p x then k else idxF p l (k + 1)

theorem idxF_neg (p : Int → Bool) (xs : List Int) (k : Nat) : decide (0 ≤ idxF p xs k) = xs.any p := by
  induction xs generalizing k with
  | nil => rfl
  | cons x l ih =>
    unfold idxF
    cases h : p x
    · simp [h, ih]
    · simp [h]

theorem within_A (n lo hi : Int) : AC Tryz.prog 86 [I n, I lo, I hi] (B (inR n lo hi)) := by
  refine ac_body Tryz.func86 rfl (by kernel_rfl) fun w0 ok => ?_; show AWp _ (ctx0 w0 ok _) _ (ARet _ _ _) (entry _)
  (repeat' (first | (with_reducible first | intro hg | refine mv (by constructor) ?_) | ((with_reducible first | refine zR ?_ ?_ | refine zW mixed ?_ ?_); exact kr) | ((with_reducible apply zK); exact rfl; exact tf) | ((with_reducible apply zCD); exact rfl) | ((with_reducible apply zCN); exact rfl) | ((with_reducible apply zC); exact rfl) | ((with_reducible refine zX ?_ ?_); exact rfl) | ((with_reducible refine zE (And.intro ?_ ?_)); exact kr) | (with_reducible refine zE ?_) | ((with_reducible apply zP); exact dp) | ((with_reducible apply zN); exact dn) | ((with_reducible apply zA); exact da) | ((with_reducible apply zS); exact ds) | ((with_reducible apply zY); exact rfl; exact rfl; exact tf) | ((with_reducible apply zG); exact rfl; exact rfl; exact tf) | ((with_reducible apply zU); exact rfl; exact rfl) | ((with_reducible apply zD); exact rfl; exact rfl) | ((with_reducible apply zB); exact rfl; exact rfl)))
  all_goals refine q_retR (res_tmp rfl res_nil) (rt_bool ?_)
  · simp [inR, hg]
  · simp [inR, hg]

theorem isSized_A (n m : Int) (h : Sm m) : AC Tryz.prog 85 [I n, I m] (B (inR n (-m) m)) := by
  obtain ⟨h1, h2⟩ := h
  refine ac_body Tryz.func85 rfl (by kernel_rfl) fun w0 ok => ?_; show AWp _ (ctx0 w0 ok _) _ (ARet _ _ _) (entry _)
  (repeat' (first | (with_reducible first | intro hg | refine mv (by constructor) ?_) | ((with_reducible first | refine zR ?_ ?_ | refine zW mixed ?_ ?_); exact kr) | ((with_reducible apply zK); exact rfl; exact tf) | ((with_reducible apply zCD); exact rfl) | ((with_reducible apply zCN); exact rfl) | ((with_reducible apply zC); exact rfl) | ((with_reducible refine zX ?_ ?_); exact rfl) | ((with_reducible refine zE (And.intro ?_ ?_)); exact kr) | (with_reducible refine zE ?_) | ((with_reducible apply zP); (first | exact dp | exact oc rfl (within_A _ _ _))) | ((with_reducible apply zN); exact dn) | ((with_reducible apply zA); exact da) | ((with_reducible apply zS); exact ds) | ((with_reducible apply zY); exact rfl; exact rfl; exact tf) | ((with_reducible apply zG); exact rfl; exact rfl; exact tf) | ((with_reducible apply zU); exact rfl; exact rfl) | ((with_reducible apply zD); exact rfl; exact rfl) | ((with_reducible apply zB); exact rfl; exact rfl)))
  exact q_retR (res_tmp rfl res_nil) rfl

theorem unless_A (b : Bool) (n : Int) : AC Tryz.prog 47 [B b, I n] (I (unl b n)) := by
  refine ac_body Tryz.func47 rfl (by kernel_rfl) fun w0 ok => ?_; show AWp _ (ctx0 w0 ok _) _ (ARet _ _ _) (entry _)
  (repeat' (first | (with_reducible first | intro hg | refine mv (by constructor) ?_) | ((with_reducible first | refine zR ?_ ?_ | refine zW mixed ?_ ?_); exact kr) | ((with_reducible apply zK); exact rfl; exact tf) | ((with_reducible apply zCD); exact rfl) | ((with_reducible apply zCN); exact rfl) | ((with_reducible apply zC); exact rfl) | ((with_reducible refine zX ?_ ?_); exact rfl) | ((with_reducible refine zE (And.intro ?_ ?_)); exact kr) | (with_reducible refine zE ?_) | ((with_reducible apply zP); exact dp) | ((with_reducible apply zN); exact dn) | ((with_reducible apply zA); exact da) | ((with_reducible apply zS); exact ds) | ((with_reducible apply zY); exact rfl; exact rfl; exact tf) | ((with_reducible apply zG); exact rfl; exact rfl; exact tf) | ((with_reducible apply zU); exact rfl; exact rfl) | ((with_reducible apply zD); exact rfl; exact rfl) | ((with_reducible apply zB); exact rfl; exact rfl)))
  · exact q_retR (res_tmp rfl res_nil) (rt_int (by rw [hg]; rfl))
  · exact q_retR (res_tmp rfl res_nil) (rt_int (by rw [hg]; rfl))

theorem first_A (es : List Int) (hm : es.length ≤ 140737488355328) : AC Tryz.prog 46 [isl es] (I (fst0 es)) := by
  refine ac_body Tryz.func46 rfl (by kernel_rfl) fun w0 ok => ?_; show AWp _ (ctx0 w0 ok _) _ (ARet _ _ _) (entry _)
  (repeat' (first | (with_reducible first | intro hg | refine mv (by constructor) ?_) | ((with_reducible first | refine zR ?_ ?_ | refine zW mixed ?_ ?_); exact kr) | ((with_reducible apply zK); exact rfl; exact tf) | ((with_reducible apply zCD); exact rfl) | ((with_reducible apply zCN); exact rfl) | ((with_reducible apply zC); exact rfl) | ((with_reducible refine zX ?_ ?_); exact rfl) | ((with_reducible refine zE (And.intro ?_ ?_)); exact kr) | (with_reducible refine zE ?_) | ((with_reducible apply zP); exact dp) | ((with_reducible apply zN); exact dn) | ((with_reducible apply zA); exact da) | ((with_reducible apply zS); exact ds) | ((with_reducible apply zY); exact rfl; exact rfl; exact tf) | ((with_reducible apply zG); exact rfl; exact rfl; exact tf) | ((with_reducible apply zU); exact rfl; exact rfl) | ((with_reducible apply zD); exact rfl; exact rfl) | ((with_reducible apply zB); exact rfl; exact rfl)))
  refine awp_loopL (α := Nat) (fun k => [(5, .d (isl es)), (6, .d (I es.length)), (7, .d (I k))]) (fun _ => []) (fun k => k ≤ es.length ∧ fst0 es = fst0 (es.drop k)) (fun k => es.length - k) 0 ⟨Nat.zero_le _, rfl⟩ ⟨rfl, rfl, rfl, trivial⟩ trivial fun k ⟨hk, hd⟩ => ?_
  by_cases hlt : k < es.length
  · (repeat' (first | (with_reducible first | intro hg | refine mv (by constructor) ?_) | ((with_reducible first | refine zR ?_ ?_ | refine zW mixed ?_ ?_); exact kr) | ((with_reducible apply zK); exact rfl; exact tf) | ((with_reducible apply zCD); exact rfl) | ((with_reducible apply zCN); exact rfl) | ((with_reducible apply zC); exact rfl) | ((with_reducible refine zX ?_ ?_); exact rfl) | ((with_reducible refine zE (And.intro ?_ ?_)); exact kr) | (with_reducible refine zE ?_) | ((with_reducible apply zP); exact dp) | ((with_reducible apply zN); exact dn) | ((with_reducible apply zA); exact da) | ((with_reducible apply zS); exact ds) | ((with_reducible apply zY); exact rfl; exact rfl; exact tf) | ((with_reducible apply zG); exact rfl; exact rfl; exact tf) | ((with_reducible apply zU); exact rfl; exact rfl) | ((with_reducible apply zD); exact rfl; exact rfl) | ((with_reducible apply zB); exact rfl; exact rfl)))
    · ((with_reducible first | apply q_retR | apply q_retN); exact rl)
      exact rt_int (by rw [hd, drop_getD hlt, fst0_ne hg])
    · exact ⟨k + 1, ⟨hlt, by rw [hd, drop_getD hlt, show nth es k = 0 by omega]; rfl⟩, by omega, ⟨rfl, rfl, rfl, trivial⟩, trivial⟩
  · (repeat' (first | (with_reducible first | intro hg | refine mv (by constructor) ?_) | ((with_reducible first | refine zR ?_ ?_ | refine zW mixed ?_ ?_); exact kr) | ((with_reducible apply zK); exact rfl; exact tf) | ((with_reducible apply zCD); exact rfl) | ((with_reducible apply zCN); exact rfl) | ((with_reducible apply zC); exact rfl) | ((with_reducible refine zX ?_ ?_); exact rfl) | ((with_reducible refine zE (And.intro ?_ ?_)); exact kr) | (with_reducible refine zE ?_) | ((with_reducible apply zP); exact dp) | ((with_reducible apply zN); exact dn) | ((with_reducible apply zA); exact da) | ((with_reducible apply zS); exact ds) | ((with_reducible apply zY); exact rfl; exact rfl; exact tf) | ((with_reducible apply zG); exact rfl; exact rfl; exact tf) | ((with_reducible apply zU); exact rfl; exact rfl) | ((with_reducible apply zD); exact rfl; exact rfl) | ((with_reducible apply zB); exact rfl; exact rfl)))
    ((with_reducible first | apply q_retR | apply q_retN); exact rl)
    exact rt_int (by rw [hd, List.drop_of_length_le (by omega)]; rfl)

theorem bwithin_A (n lo hi : Int) : AC Tryz.prog 52 [I n, I lo, I hi] (B (inR n lo hi)) := by
  refine ac_body Tryz.func52 rfl (by kernel_rfl) fun w0 ok => ?_; show AWp _ (ctx0 w0 ok _) _ (ARet _ _ _) (entry _)
  (repeat' (first | (with_reducible first | intro hg | refine mv (by constructor) ?_) | ((with_reducible first | refine zR ?_ ?_ | refine zW mixed ?_ ?_); exact kr) | ((with_reducible apply zK); exact rfl; exact tf) | ((with_reducible apply zCD); exact rfl) | ((with_reducible apply zCN); exact rfl) | ((with_reducible apply zC); exact rfl) | ((with_reducible refine zX ?_ ?_); exact rfl) | ((with_reducible refine zE (And.intro ?_ ?_)); exact kr) | (with_reducible refine zE ?_) | ((with_reducible apply zP); exact dp) | ((with_reducible apply zN); exact dn) | ((with_reducible apply zA); exact da) | ((with_reducible apply zS); exact ds) | ((with_reducible apply zY); exact rfl; exact rfl; exact tf) | ((with_reducible apply zG); exact rfl; exact rfl; exact tf) | ((with_reducible apply zU); exact rfl; exact rfl) | ((with_reducible apply zD); exact rfl; exact rfl) | ((with_reducible apply zB); exact rfl; exact rfl)))
  all_goals ((with_reducible first | apply q_retR | apply q_retN); exact rl)
  · exact rt_bool (by simp [inR, hg])
  · exact rt_bool (by simp [inR, hg])

theorem bsize_A (n : Int) (hn : Sm n) : AC Tryz.prog 101 [I n] (I n.natAbs) := by
  obtain ⟨hn1, hn2⟩ := hn
  refine ac_body Tryz.func101 rfl (by kernel_rfl) fun w0 ok => ?_; show AWp _ (ctx0 w0 ok _) _ (ARet _ _ _) (entry _)
  (repeat' (first | (with_reducible first | intro hg | refine mv (by constructor) ?_) | ((with_reducible first | refine zR ?_ ?_ | refine zW mixed ?_ ?_); exact kr) | ((with_reducible apply zK); exact rfl; exact tf) | ((with_reducible apply zCD); exact rfl) | ((with_reducible apply zCN); exact rfl) | ((with_reducible apply zC); exact rfl) | ((with_reducible refine zX ?_ ?_); exact rfl) | ((with_reducible refine zE (And.intro ?_ ?_)); exact kr) | (with_reducible refine zE ?_) | ((with_reducible apply zP); exact dp) | ((with_reducible apply zN); exact dn) | ((with_reducible apply zA); exact da) | ((with_reducible apply zS); exact ds) | ((with_reducible apply zY); exact rfl; exact rfl; exact tf) | ((with_reducible apply zG); exact rfl; exact rfl; exact tf) | ((with_reducible apply zU); exact rfl; exact rfl) | ((with_reducible apply zD); exact rfl; exact rfl) | ((with_reducible apply zB); exact rfl; exact rfl)))
  ((with_reducible first | apply q_retR | apply q_retN); exact rl)
  exact rt_int (by omega)

theorem bgcd_A (a b : Int) (ha : Sm a) (hb : Sm b) : AC Tryz.prog 58 [I a, I b] (I (Int.gcd a b)) := by
  refine ac_body Tryz.func58 rfl (by kernel_rfl) fun w0 ok => ?_; show AWp _ (ctx0 w0 ok _) _ (ARet _ _ _) (entry _)
  (repeat' (first | (with_reducible first | intro hg | refine mv (by constructor) ?_) | ((with_reducible first | refine zR ?_ ?_ | refine zW mixed ?_ ?_); exact kr) | ((with_reducible apply zK); exact rfl; exact tf) | ((with_reducible apply zCD); exact rfl) | ((with_reducible apply zCN); exact rfl) | ((with_reducible apply zC); exact rfl) | ((with_reducible refine zX ?_ ?_); exact rfl) | ((with_reducible refine zE (And.intro ?_ ?_)); exact kr) | (with_reducible refine zE ?_) | ((with_reducible apply zP); exact dp) | ((with_reducible apply zN); exact dn) | ((with_reducible apply zA); exact da) | ((with_reducible apply zS); exact ds) | ((with_reducible apply zY); exact rfl; exact rfl; exact tf) | ((with_reducible apply zG); exact rfl; exact rfl; exact tf) | ((with_reducible apply zU); exact rfl; exact rfl) | ((with_reducible apply zD); exact rfl; exact rfl) | ((with_reducible apply zB); exact rfl; exact rfl)))
  refine awp_loopL (α := Int × Int) (fun k => [(0, .d (I k.1)), (1, .d (I k.2))]) (fun _ => []) (fun k => Sm k.1 ∧ Sm k.2 ∧ Int.gcd k.1 k.2 = Int.gcd a b) (fun k => k.2.natAbs) (a, b) ⟨ha, hb, rfl⟩ ⟨rfl, rfl, trivial⟩ trivial fun ⟨u, v⟩ ⟨⟨hu1, hu2⟩, ⟨hv1, hv2⟩, hd⟩ => ?_
  simp only at hu1 hu2 hv1 hv2 hd
  by_cases hz : v = 0
  · subst hz
    (repeat' (first | (with_reducible first | intro hg | refine mv (by constructor) ?_) | ((with_reducible first | refine zR ?_ ?_ | refine zW mixed ?_ ?_); exact kr) | ((with_reducible apply zK); exact rfl; exact tf) | ((with_reducible apply zCD); exact rfl) | ((with_reducible apply zCN); exact rfl) | ((with_reducible apply zC); exact rfl) | ((with_reducible refine zX ?_ ?_); exact rfl) | ((with_reducible refine zE (And.intro ?_ ?_)); exact kr) | (with_reducible refine zE ?_) | ((with_reducible apply zP); (first | exact dp | exact oc rfl (bsize_A _ ⟨hu1, hu2⟩))) | ((with_reducible apply zN); exact dn) | ((with_reducible apply zA); exact da) | ((with_reducible apply zS); exact ds) | ((with_reducible apply zY); exact rfl; exact rfl; exact tf) | ((with_reducible apply zG); exact rfl; exact rfl; exact tf) | ((with_reducible apply zU); exact rfl; exact rfl) | ((with_reducible apply zD); exact rfl; exact rfl) | ((with_reducible apply zB); exact rfl; exact rfl)))
    ((with_reducible first | apply q_retR | apply q_retN); exact rl)
    exact rt_int (by rw [← hd, Int.gcd_zero_right])
  · (repeat' (first | (with_reducible first | intro hg | refine mv (by constructor) ?_) | ((with_reducible first | refine zR ?_ ?_ | refine zW mixed ?_ ?_); exact kr) | ((with_reducible apply zK); exact rfl; exact tf) | ((with_reducible apply zCD); exact rfl) | ((with_reducible apply zCN); exact rfl) | ((with_reducible apply zC); exact rfl) | ((with_reducible refine zX ?_ ?_); exact rfl) | ((with_reducible refine zE (And.intro ?_ ?_)); exact kr) | (with_reducible refine zE ?_) | ((with_reducible apply zP); exact dp) | ((with_reducible apply zN); exact dn) | ((with_reducible apply zA); exact da) | ((with_reducible apply zS); exact ds) | ((with_reducible apply zY); exact rfl; exact rfl; exact tf) | ((with_reducible apply zG); exact rfl; exact rfl; exact tf) | ((with_reducible apply zU); exact rfl; exact rfl) | ((with_reducible apply zD); exact rfl; exact rfl) | ((with_reducible apply zB); exact rfl; exact rfl)))
    have := tmod_lt u v hz
    exact ⟨(v, u.tmod v), ⟨⟨hv1, hv2⟩, ⟨by simp only; omega, by simp only; omega⟩, by rw [gcd_step]; exact hd⟩, this, ⟨rfl, rfl, trivial⟩, trivial⟩

theorem first2_A (a b : Int) : AC Tryz.prog 46 [.slice 2 [I a, I b]] (I (fst0 [a, b])) := first_A [a, b] (by simp)
theorem first3_A (a b c : Int) : AC Tryz.prog 46 [.slice 3 [I a, I b, I c]] (I (fst0 [a, b, c])) := first_A [a, b, c] (by simp)
theorem first4_A (a b c d : Int) : AC Tryz.prog 46 [.slice 4 [I a, I b, I c, I d]] (I (fst0 [a, b, c, d])) := first_A [a, b, c, d] (by simp)

abbrev fnV (K : Nat) : DV := .val (.func (.func K) #[] #[])
inductive FV (K : Nat) : DV → List DV → Prop
  | val : FV K (fnV K) []
  | fn {caps} : FV K (.fn (.func K) [] caps) caps
theorem FV.v {K : Nat} {fv : DV} {caps : List DV} {s : AS} {y : Operand} (h : FV K fv caps) (e : s.ev y = .d fv) : FnV s y K caps := by
  cases h with
  | val => exact .val e
  | fn => exact .fn e
theorem indexFunc_A (K : Nat) (he : Enters Tryz.prog K) {fv : DV} {caps : List DV} (hv : FV K fv caps) (p : Int → Bool) (xs : List Int) (hm : xs.length ≤ 140737488355328) (hp : ∀ x ∈ xs, AC Tryz.prog K ([I x] ++ caps) (B (p x))) : AC Tryz.prog 114 [isl xs, fv] (I (idxF p xs 0)) := by
  refine ac_body Tryz.func114 rfl (by kernel_rfl) fun w0 ok => ?_; show AWp _ (ctx0 w0 ok _) _ (ARet _ _ _) (entry _)
  (repeat' (first | (with_reducible first | intro hg | refine mv (by constructor) ?_) | ((with_reducible first | refine zR ?_ ?_ | refine zW mixed ?_ ?_); exact kr) | ((with_reducible apply zK); exact rfl; exact tf) | ((with_reducible apply zCD); exact rfl) | ((with_reducible apply zCN); exact rfl) | ((with_reducible apply zC); exact rfl) | ((with_reducible refine zX ?_ ?_); exact rfl) | ((with_reducible refine zE (And.intro ?_ ?_)); exact kr) | (with_reducible refine zE ?_) | ((with_reducible apply zP); exact dp) | ((with_reducible apply zN); exact dn) | ((with_reducible apply zA); exact da) | ((with_reducible apply zS); exact ds) | ((with_reducible apply zY); exact rfl; exact rfl; exact tf) | ((with_reducible apply zG); exact rfl; exact rfl; exact tf) | ((with_reducible apply zU); exact rfl; exact rfl) | ((with_reducible apply zD); exact rfl; exact rfl) | ((with_reducible apply zB); exact rfl; exact rfl)))
  refine awp_loopL (α := Nat) (fun k => [(0, .d (isl xs)), (1, .d fv), (7, .d (I xs.length)), (8, .d (I k))]) (fun _ => []) (fun k => k ≤ xs.length ∧ idxF p xs 0 = idxF p (xs.drop k) k) (fun k => xs.length - k) 0 ⟨Nat.zero_le _, rfl⟩ ⟨rfl, rfl, rfl, rfl, trivial⟩ trivial fun k ⟨hk, hd⟩ => ?_
  by_cases hlt : k < xs.length
  · have hs : idxF p (xs.drop k) k = bif p (nth xs k) then (k : Int) else idxF p (xs.drop (k + 1)) (k + 1) := by rw [drop_getD hlt]; rfl
    have hpk := hp (nth xs k) (by unfold nth; rw [List.getD_eq_getElem?_getD, List.getElem?_eq_getElem hlt]; exact List.getElem_mem hlt)
    cases hq : p (nth xs k)
    all_goals
      rw [hq] at hpk
      (repeat' (first | (with_reducible first | intro hg | refine mv (by constructor) ?_) | ((with_reducible first | refine zR ?_ ?_ | refine zW mixed ?_ ?_); exact kr) | ((with_reducible apply zK); exact rfl; exact tf) | ((with_reducible apply zCD); exact rfl) | ((with_reducible apply zCN); exact rfl) | ((with_reducible apply zC); exact rfl) | ((with_reducible refine zX ?_ ?_); exact rfl) | ((with_reducible refine zE (And.intro ?_ ?_)); exact kr) | (with_reducible refine zE ?_) | ((with_reducible apply zP); exact dp) | ((with_reducible apply zN); exact dn) | ((with_reducible apply zA); exact da) | ((with_reducible apply zS); exact ds) | ((with_reducible apply zY); exact rfl; exact rfl; exact tf) | ((with_reducible apply zG); exact rfl; exact rfl; exact tf) | ((with_reducible apply zU); exact rfl; exact rfl) | ((with_reducible apply zD); exact rfl; exact rfl) | ((with_reducible apply zB); exact rfl; exact rfl)))
      (with_reducible apply r_put); focus exact o_callF he (hv.v rfl) rfl hpk (.inl rfl)
      (repeat' (first | (with_reducible first | intro hg | refine mv (by constructor) ?_) | ((with_reducible first | refine zR ?_ ?_ | refine zW mixed ?_ ?_); exact kr) | ((with_reducible apply zK); exact rfl; exact tf) | ((with_reducible apply zCD); exact rfl) | ((with_reducible apply zCN); exact rfl) | ((with_reducible apply zC); exact rfl) | ((with_reducible refine zX ?_ ?_); exact rfl) | ((with_reducible refine zE (And.intro ?_ ?_)); exact kr) | (with_reducible refine zE ?_) | ((with_reducible apply zP); exact dp) | ((with_reducible apply zN); exact dn) | ((with_reducible apply zA); exact da) | ((with_reducible apply zS); exact ds) | ((with_reducible apply zY); exact rfl; exact rfl; exact tf) | ((with_reducible apply zG); exact rfl; exact rfl; exact tf) | ((with_reducible apply zU); exact rfl; exact rfl) | ((with_reducible apply zD); exact rfl; exact rfl) | ((with_reducible apply zB); exact rfl; exact rfl)))
    · exact ⟨k + 1, ⟨hlt, by rw [hd, hs, hq]; rfl⟩, by omega, ⟨rfl, rfl, rfl, rfl, trivial⟩, trivial⟩
    · ((with_reducible first | apply q_retR | apply q_retN); exact rl)
      exact rt_int (by rw [hd, hs, hq]; rfl)
  · (repeat' (first | (with_reducible first | intro hg | refine mv (by constructor) ?_) | ((with_reducible first | refine zR ?_ ?_ | refine zW mixed ?_ ?_); exact kr) | ((with_reducible apply zK); exact rfl; exact tf) | ((with_reducible apply zCD); exact rfl) | ((with_reducible apply zCN); exact rfl) | ((with_reducible apply zC); exact rfl) | ((with_reducible refine zX ?_ ?_); exact rfl) | ((with_reducible refine zE (And.intro ?_ ?_)); exact kr) | (with_reducible refine zE ?_) | ((with_reducible apply zP); exact dp) | ((with_reducible apply zN); exact dn) | ((with_reducible apply zA); exact da) | ((with_reducible apply zS); exact ds) | ((with_reducible apply zY); exact rfl; exact rfl; exact tf) | ((with_reducible apply zG); exact rfl; exact rfl; exact tf) | ((with_reducible apply zU); exact rfl; exact rfl) | ((with_reducible apply zD); exact rfl; exact rfl) | ((with_reducible apply zB); exact rfl; exact rfl)))
    ((with_reducible first | apply q_retR | apply q_retN); exact rl)
    exact rt_int (by rw [hd, List.drop_of_length_le (by omega)]; rfl)

theorem containsFunc_A (K : Nat) (he : Enters Tryz.prog K) {fv : DV} {caps : List DV} (hv : FV K fv caps) (p : Int → Bool) (xs : List Int) (hm : xs.length ≤ 140737488355328) (hp : ∀ x ∈ xs, AC Tryz.prog K ([I x] ++ caps) (B (p x))) : AC Tryz.prog 67 [isl xs, fv] (B (xs.any p)) := by
  refine ac_body Tryz.func67 rfl (by kernel_rfl) fun w0 ok => ?_; show AWp _ (ctx0 w0 ok _) _ (ARet _ _ _) (entry _)
  (repeat' (first | (with_reducible first | intro hg | refine mv (by constructor) ?_) | ((with_reducible first | refine zR ?_ ?_ | refine zW mixed ?_ ?_); exact kr) | ((with_reducible apply zK); exact rfl; exact tf) | ((with_reducible apply zCD); exact rfl) | ((with_reducible apply zCN); exact rfl) | ((with_reducible apply zC); exact rfl) | ((with_reducible refine zX ?_ ?_); exact rfl) | ((with_reducible refine zE (And.intro ?_ ?_)); exact kr) | (with_reducible refine zE ?_) | ((with_reducible apply zP); (first | exact dp | exact oc rfl (indexFunc_A K he hv p xs hm hp))) | ((with_reducible apply zN); exact dn) | ((with_reducible apply zA); exact da) | ((with_reducible apply zS); exact ds) | ((with_reducible apply zY); exact rfl; exact rfl; exact tf) | ((with_reducible apply zG); exact rfl; exact rfl; exact tf) | ((with_reducible apply zU); exact rfl; exact rfl) | ((with_reducible apply zD); exact rfl; exact rfl) | ((with_reducible apply zB); exact rfl; exact rfl)))
  ((with_reducible first | apply q_retR | apply q_retN); exact rl)
  exact rt_bool (by rw [idxF_neg])


theorem copyInts_A (xs : List Int) (hm : xs.length ≤ 1000000) : AC Tryz.prog 57 [isl xs] (isl xs) := by
  by_cases hne : xs = []
  · subst hne
    refine ac_body Tryz.func57 rfl (by kernel_rfl) fun w0 ok => ?_; show AWp _ (ctx0 w0 ok _) _ (ARet _ _ _) (entry _)
    exact zF
  · have hpos : 0 < xs.length := List.length_pos_iff.2 hne
    refine ac_body Tryz.func57 rfl (by kernel_rfl) fun w0 ok => ?_; show AWp _ (ctx0 w0 ok _) _ (ARet _ _ _) (entry _)
    (repeat' (first | (with_reducible first | intro hg | refine mv (by constructor) ?_) | ((with_reducible first | refine zR ?_ ?_ | refine zW mixed ?_ ?_); exact kr) | ((with_reducible apply zK); exact rfl; exact tf) | ((with_reducible apply zCD); exact rfl) | ((with_reducible apply zCN); exact rfl) | ((with_reducible apply zC); exact rfl) | ((with_reducible refine zX ?_ ?_); exact rfl) | ((with_reducible refine zE (And.intro ?_ ?_)); exact kr) | (with_reducible refine zE ?_) | ((with_reducible apply zP); exact dp) | ((with_reducible apply zN); exact dn) | ((with_reducible apply zA); exact da) | ((with_reducible apply zS); exact ds) | ((with_reducible apply zY); exact rfl; exact rfl; exact tf) | ((with_reducible apply zG); exact rfl; exact rfl; exact tf) | ((with_reducible apply zU); exact rfl; exact rfl) | ((with_reducible apply zD); exact rfl; exact rfl) | ((with_reducible apply zB); exact rfl; exact rfl)))
    ((with_reducible first | apply q_retR | apply q_retN); exact rl)
    show DV.slice xs.length (ivs xs) = DV.slice (0 + xs.length) ((([] ++ ivs xs).drop 0).take ((0 + xs.length) * 1))
    rw [Nat.zero_add, Nat.mul_one, List.nil_append, List.drop_zero, List.take_of_length_le (by simp [ivs])]
end Go.Proofs.YtfcfmpdpjmbcnaaGreatDoor
/- Walks of gauge: helpers. -/
set_option linter.unusedVariables false
set_option linter.unusedSimpArgs false
namespace Go.Proofs.YtfcfmpdpjmbcnaaGreatDoor
open Go.RowKit
set_option maxRecDepth 20000

section
variable {P : Program} {s : AS} {dst : Option Tmp} {ty : TypeId} {ps : String} {af : Array Edge} {t : TypeId} {x y : Operand} {k : IntKind}
theorem flat_drop {α : Type} (f : α → List DV) (sz : Nat) (hf : ∀ a, (f a).length = sz) (d : α) : ∀ (xs : List α) (j : Nat), j < xs.length → (xs.map f).flatten.drop (j * sz) = f (xs.getD j d) ++ ((xs.drop (j + 1)).map f).flatten
  | x :: xs, 0, _ => by simp
  | x :: xs, j + 1, h => by
    have h1 : (j + 1) * sz = (f x).length + j * sz := by rw [hf, Nat.add_mul]; omega
    rw [List.map_cons, List.flatten_cons, h1, List.drop_append, List.drop_eq_nil_of_le (by omega), List.nil_append, Nat.add_sub_cancel_left]
    have := flat_drop f sz hf d xs j (by simpa using h)
    rw [this]; rfl
theorem flat_len {α : Type} (f : α → List DV) (sz : Nat) (hf : ∀ a, (f a).length = sz) (xs : List α) : (xs.map f).flatten.length = xs.length * sz := by
  induction xs with
  | nil => simp
  | cons x xs ih => rw [List.map_cons, List.flatten_cons, List.length_append, ih, hf, List.length_cons, Nat.add_mul]; omega
theorem o_indexF {α : Type} {n sz len : Nat} {xs : List α} {f : α → List DV} (d : α) {j : Nat} [ht : IdxI P t false n sz] (hf : ∀ a, (f a).length = sz) (hsz : 0 < sz) (hx : s.ev x = .d (.slice len (xs.map f).flatten)) (hy : s.ev y = .d (.val (.int k (j : Int)))) (hl : j < len) (hlen : len = xs.length) (gd : Option (Nat × Bool)) :
    Does P ⟨dst, .indexAddr t x y, ty, ps, af, gd⟩ s [] (.put (.d (.ref (f (xs.getD j d) ++ ((xs.drop (j + 1)).map f).flatten)))) := by
  have := does_indexS (gd := gd) (dst := dst) (ty := ty) (ps := ps) (af := af) ht.eq hx hy (by omega) (by omega) (fun h => by
    have h1 := flat_len f sz hf xs
    rw [h] at h1
    have : 0 < xs.length * sz := Nat.mul_pos (by omega) hsz
    simp at h1; omega)
  rw [Int.toNat_natCast, flat_drop f sz hf d xs j (by omega)] at this
  exact this
theorem spl_set (v : Int) : ∀ (xs : List Int) (j : Nat), j < xs.length → spl (xs.map I) j [I v] = (xs.set j v).map I
  | x :: xs, 0, _ => by simp [spl]
  | x :: xs, j + 1, h => by
    have := spl_set v xs j (by simpa using h)
    simp only [spl, List.length_singleton] at this ⊢
    rw [List.map_cons, List.take_succ_cons, List.drop_succ_cons, List.set_cons_succ, List.map_cons, ← this]
    rfl
theorem o_storeLI {nm off : Nat} {b : TypeId} {xs : List Int} {v : Int} [h : TyI P t false 1] (hx : s.ev x = .ptr nm off) (hm : s.mem nm = some ⟨b, xs.map I⟩) (hy : s.ev y = .d (I v)) (hj : off < xs.length) (gd : Option (Nat × Bool)) :
    Does P ⟨dst, .store t x y, ty, ps, af, gd⟩ s [nm] (.setBlk nm ⟨b, (xs.set off v).map I⟩) :=
  does_store hx hm hy rfl h.eq rfl (by show off + 1 ≤ (xs.map I).length; simp; omega) (spl_set v xs off hj)
end

theorem size_A (n : Int) (hn : Sm n) : AC Tryz.prog 78 [I n] (I n.natAbs) := by
  obtain ⟨hn1, hn2⟩ := hn
  refine ac_body Tryz.func78 rfl (by kernel_rfl) fun w0 ok => ?_; show AWp _ (ctx0 w0 ok _) _ (ARet _ _ _) (entry _)
  (repeat' (first | (with_reducible first | intro hg | refine mv (by constructor) ?_) | ((with_reducible first | refine zR ?_ ?_ | refine zW mixed ?_ ?_); exact kr) | ((with_reducible apply zK); exact rfl; exact tf) | ((with_reducible apply zCD); exact rfl) | ((with_reducible apply zCN); exact rfl) | ((with_reducible apply zC); exact rfl) | ((with_reducible refine zX ?_ ?_); exact rfl) | ((with_reducible refine zE (And.intro ?_ ?_)); exact kr) | (with_reducible refine zE ?_) | ((with_reducible apply zP); exact dp) | ((with_reducible apply zN); exact dn) | ((with_reducible apply zA); exact da) | ((with_reducible apply zS); exact ds) | ((with_reducible apply zY); exact rfl; exact rfl; exact tf) | ((with_reducible apply zG); exact rfl; exact rfl; exact tf) | ((with_reducible apply zU); exact rfl; exact rfl) | ((with_reducible apply zD); exact rfl; exact rfl) | ((with_reducible apply zB); exact rfl; exact rfl)))
  ((with_reducible first | apply q_retR | apply q_retN); exact rl)
  exact rt_int (by omega)
theorem divisor_A (a b : Int) (ha : Sm a) (hb : Sm b) : AC Tryz.prog 123 [I a, I b] (I (Int.gcd a b)) := by
  refine ac_body Tryz.func123 rfl (by kernel_rfl) fun w0 ok => ?_; show AWp _ (ctx0 w0 ok _) _ (ARet _ _ _) (entry _)
  (repeat' (first | (with_reducible first | intro hg | refine mv (by constructor) ?_) | ((with_reducible first | refine zR ?_ ?_ | refine zW mixed ?_ ?_); exact kr) | ((with_reducible apply zK); exact rfl; exact tf) | ((with_reducible apply zCD); exact rfl) | ((with_reducible apply zCN); exact rfl) | ((with_reducible apply zC); exact rfl) | ((with_reducible refine zX ?_ ?_); exact rfl) | ((with_reducible refine zE (And.intro ?_ ?_)); exact kr) | (with_reducible refine zE ?_) | ((with_reducible apply zP); exact dp) | ((with_reducible apply zN); exact dn) | ((with_reducible apply zA); exact da) | ((with_reducible apply zS); exact ds) | ((with_reducible apply zY); exact rfl; exact rfl; exact tf) | ((with_reducible apply zG); exact rfl; exact rfl; exact tf) | ((with_reducible apply zU); exact rfl; exact rfl) | ((with_reducible apply zD); exact rfl; exact rfl) | ((with_reducible apply zB); exact rfl; exact rfl)))
  refine awp_loopL (α := Int × Int) (fun k => [(0, .d (I k.1)), (1, .d (I k.2))]) (fun _ => []) (fun k => Sm k.1 ∧ Sm k.2 ∧ Int.gcd k.1 k.2 = Int.gcd a b) (fun k => k.2.natAbs) (a, b) ⟨ha, hb, rfl⟩ ⟨rfl, rfl, trivial⟩ trivial fun ⟨u, v⟩ ⟨⟨hu1, hu2⟩, ⟨hv1, hv2⟩, hd⟩ => ?_
  simp only at hu1 hu2 hv1 hv2 hd
  by_cases hz : v = 0
  · subst hz
    (repeat' (first | (with_reducible first | intro hg | refine mv (by constructor) ?_) | ((with_reducible first | refine zR ?_ ?_ | refine zW mixed ?_ ?_); exact kr) | ((with_reducible apply zK); exact rfl; exact tf) | ((with_reducible apply zCD); exact rfl) | ((with_reducible apply zCN); exact rfl) | ((with_reducible apply zC); exact rfl) | ((with_reducible refine zX ?_ ?_); exact rfl) | ((with_reducible refine zE (And.intro ?_ ?_)); exact kr) | (with_reducible refine zE ?_) | ((with_reducible apply zP); (first | exact dp | exact oc rfl (size_A _ ⟨hu1, hu2⟩))) | ((with_reducible apply zN); exact dn) | ((with_reducible apply zA); exact da) | ((with_reducible apply zS); exact ds) | ((with_reducible apply zY); exact rfl; exact rfl; exact tf) | ((with_reducible apply zG); exact rfl; exact rfl; exact tf) | ((with_reducible apply zU); exact rfl; exact rfl) | ((with_reducible apply zD); exact rfl; exact rfl) | ((with_reducible apply zB); exact rfl; exact rfl)))
    ((with_reducible first | apply q_retR | apply q_retN); exact rl)
    exact rt_int (by rw [← hd, Int.gcd_zero_right])
  · (repeat' (first | (with_reducible first | intro hg | refine mv (by constructor) ?_) | ((with_reducible first | refine zR ?_ ?_ | refine zW mixed ?_ ?_); exact kr) | ((with_reducible apply zK); exact rfl; exact tf) | ((with_reducible apply zCD); exact rfl) | ((with_reducible apply zCN); exact rfl) | ((with_reducible apply zC); exact rfl) | ((with_reducible refine zX ?_ ?_); exact rfl) | ((with_reducible refine zE (And.intro ?_ ?_)); exact kr) | (with_reducible refine zE ?_) | ((with_reducible apply zP); exact dp) | ((with_reducible apply zN); exact dn) | ((with_reducible apply zA); exact da) | ((with_reducible apply zS); exact ds) | ((with_reducible apply zY); exact rfl; exact rfl; exact tf) | ((with_reducible apply zG); exact rfl; exact rfl; exact tf) | ((with_reducible apply zU); exact rfl; exact rfl) | ((with_reducible apply zD); exact rfl; exact rfl) | ((with_reducible apply zB); exact rfl; exact rfl)))
    have := tmod_lt u v hz
    exact ⟨(v, u.tmod v), ⟨⟨hv1, hv2⟩, ⟨by simp only; omega, by simp only; omega⟩, by rw [gcd_step]; exact hd⟩, this, ⟨rfl, rfl, trivial⟩, trivial⟩
theorem lowest_A (a b : Int) (ha : Sm a) (hb : 0 < b) (hb2 : b ≤ 9223372036854775807) : AC Tryz.prog 80 [I a, I b] (F2 (low a b)) := by
  have hg : 0 < (Int.gcd a b : Int) := by
    have := Int.gcd_pos_of_ne_zero_right a (b := b) (by omega)
    omega
  obtain ⟨ha1, ha2⟩ := id ha
  refine ac_body Tryz.func80 rfl (by kernel_rfl) fun w0 ok => ?_; show AWp _ (ctx0 w0 ok _) _ (ARet _ _ _) (entry _)
  (repeat' (first | (with_reducible first | intro hg | refine mv (by constructor) ?_) | ((with_reducible first | refine zR ?_ ?_ | refine zW mixed ?_ ?_); exact kr) | ((with_reducible apply zK); exact rfl; exact tf) | ((with_reducible apply zCD); exact rfl) | ((with_reducible apply zCN); exact rfl) | ((with_reducible apply zC); exact rfl) | ((with_reducible refine zX ?_ ?_); exact rfl) | ((with_reducible refine zE (And.intro ?_ ?_)); exact kr) | (with_reducible refine zE ?_) | ((with_reducible apply zP); (first | exact dp | exact oc rfl (divisor_A _ _ ha ⟨by omega, by omega⟩))) | ((with_reducible apply zN); exact dn) | ((with_reducible apply zA); exact da) | ((with_reducible apply zS); exact ds) | ((with_reducible apply zY); exact rfl; exact rfl; exact tf) | ((with_reducible apply zG); exact rfl; exact rfl; exact tf) | ((with_reducible apply zU); exact rfl; exact rfl) | ((with_reducible apply zD); exact rfl; exact rfl) | ((with_reducible apply zB); exact rfl; exact rfl)))
  ((with_reducible first | apply q_retR | apply q_retN); exact rl)
  rfl
theorem fst0_cons {x : Int} {l : List Int} (h : fst0 (x :: l) = 0) : x = 0 ∧ fst0 l = 0 := by
  by_cases hx : x = 0
  · subst hx; exact ⟨rfl, h⟩
  · rw [fst0_ne hx] at h; exact absurd h hx
theorem unl_ok {b : Bool} {n : Int} (hn : n ≠ 0) (h : unl b n = 0) : b = true := by
  cases b
  · exact absurd h hn
  · rfl
theorem all_of_any {xs : List Int} {p : Int → Bool} (h : (!(xs.any fun x => !p x)) = true) : ∀ x ∈ xs, p x = true := by
  intro x hx
  simp at h
  exact h x hx
theorem nth_mem {xs : List Int} {k : Nat} (h : k < xs.length) : nth xs k ∈ xs := by
  unfold nth; rw [List.getD_eq_getElem?_getD, List.getElem?_eq_getElem h]; exact List.getElem_mem h
theorem mul_rng {x e : Int} (A B : Nat) (h1 : x.natAbs ≤ A) (h2 : e.natAbs ≤ B) : (x * e).natAbs ≤ A * B := by rw [Int.natAbs_mul]; exact Nat.mul_le_mul h1 h2
section
variable {P : Program} {s : AS} {ty : TypeId} {ps : String} {af : Array Edge} {dst : Option Tmp} {t t' : TypeId} {x y : Operand}
theorem o_neqS {n : Nat} {cs : List DV} {xs : List Int} [h : EqlI P t n] (hx : s.ev x = .d (.agg cs)) (hy : s.ev y = .d (.agg cs)) (hc : intsV cs = some xs) (hlx : xs.length = n) (gd : Option (Nat × Bool)) : Does P ⟨dst, .binOp .neq t x y t', ty, ps, af, gd⟩ s [] (.put (.d (B false))) := by
  have h1 := o_neqA (P := P) (t := t) (dst := dst) (ty := ty) (ps := ps) (af := af) (t' := t') hx hy hc hc hlx hlx gd
  rwa [decide_eq_false (by simp)] at h1
end

end Go.Proofs.YtfcfmpdpjmbcnaaGreatDoor
