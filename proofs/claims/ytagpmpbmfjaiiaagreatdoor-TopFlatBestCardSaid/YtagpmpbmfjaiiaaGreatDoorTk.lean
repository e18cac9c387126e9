/- Comparing fractions, fractions in lowest terms: walks. -/
import Derived.Test.YtagpmpbmfjaiiaaGreatDoorTa
set_option linter.unusedVariables false
set_option linter.unusedSimpArgs false
namespace Go.Proofs.YtagpmpbmfjaiiaaGreatDoor
open Go.RowKit
set_option maxRecDepth 20000
set_option maxHeartbeats 8000000

theorem bgcd2_A (a b : Int) (ha : I64 a) (hb : 0 < b) (hb2 : b ≤ 9223372036854775807) : AC Tryz.prog 69 [I a, I b] (I (Int.gcd a b)) := by
  obtain ⟨ha1, ha2⟩ := ha
  refine ac_body Tryz.func69 rfl (by kernel_rfl) fun w0 ok => ?_; show AWp _ (ctx0 w0 ok _) _ (ARet _ _ _) (entry _)
  (repeat' (first | (with_reducible first | intro hg | refine mv (by constructor) ?_) | ((with_reducible first | refine zR ?_ ?_ | refine zW mixed ?_ ?_); exact kr) | ((with_reducible apply zK); exact rfl; exact tf) | ((with_reducible apply zCD); exact rfl) | ((with_reducible apply zCN); exact rfl) | ((with_reducible apply zC); exact rfl) | ((with_reducible refine zX ?_ ?_); exact rfl) | ((with_reducible refine zE (And.intro ?_ ?_)); exact kr) | (with_reducible refine zE ?_) | ((with_reducible apply zP); exact dp) | ((with_reducible apply zN); exact dn) | ((with_reducible apply zA); exact da) | ((with_reducible apply zS); exact ds) | ((with_reducible apply zY); exact rfl; exact rfl; exact tf) | ((with_reducible apply zG); exact rfl; exact rfl; exact tf) | ((with_reducible apply zU); exact rfl; exact rfl) | ((with_reducible apply zD); exact rfl; exact rfl) | ((with_reducible apply zB); exact rfl; exact rfl)))
  refine awp_loopL2 (fun (u v : Int) => [(0, .d (I u)), (1, .d (I v))]) (fun _ _ => []) (fun u v => ((-9223372036854775808 < u ∨ v ≠ 0) ∧ -9223372036854775808 ≤ u ∧ u ≤ 9223372036854775807) ∧ (-9223372036854775808 < v ∧ v ≤ 9223372036854775807) ∧ Int.gcd u v = Int.gcd a b) (fun _ v => v.natAbs) a b ⟨⟨.inr (by omega), ha1, ha2⟩, ⟨by omega, hb2⟩, rfl⟩ ⟨rfl, rfl, trivial⟩ trivial fun u v ⟨⟨hu0, hu1, hu2⟩, ⟨hv1, hv2⟩, hd⟩ => ?_
  by_cases hz : v = 0
  · subst hz
    (repeat' (first | (with_reducible first | intro hg | refine mv (by constructor) ?_) | ((with_reducible first | refine zR ?_ ?_ | refine zW mixed ?_ ?_); exact kr) | ((with_reducible apply zK); exact rfl; exact tf) | ((with_reducible apply zCD); exact rfl) | ((with_reducible apply zCN); exact rfl) | ((with_reducible apply zC); exact rfl) | ((with_reducible refine zX ?_ ?_); exact rfl) | ((with_reducible refine zE (And.intro ?_ ?_)); exact kr) | (with_reducible refine zE ?_) | ((with_reducible apply zP); (first | exact dp | exact oc rfl (bsize_A _ ⟨by omega, by omega⟩))) | ((with_reducible apply zN); exact dn) | ((with_reducible apply zA); exact da) | ((with_reducible apply zS); exact ds) | ((with_reducible apply zY); exact rfl; exact rfl; exact tf) | ((with_reducible apply zG); exact rfl; exact rfl; exact tf) | ((with_reducible apply zU); exact rfl; exact rfl) | ((with_reducible apply zD); exact rfl; exact rfl) | ((with_reducible apply zB); exact rfl; exact rfl)))
    ((with_reducible first | apply q_retR | apply q_retN); exact rl)
    exact rt_int (by rw [← hd, Int.gcd_zero_right])
  · (repeat' (first | (with_reducible first | intro hg | refine mv (by constructor) ?_) | ((with_reducible first | refine zR ?_ ?_ | refine zW mixed ?_ ?_); exact kr) | ((with_reducible apply zK); exact rfl; exact tf) | ((with_reducible apply zCD); exact rfl) | ((with_reducible apply zCN); exact rfl) | ((with_reducible apply zC); exact rfl) | ((with_reducible refine zX ?_ ?_); exact rfl) | ((with_reducible refine zE (And.intro ?_ ?_)); exact kr) | (with_reducible refine zE ?_) | ((with_reducible apply zP); exact dp) | ((with_reducible apply zN); exact dn) | ((with_reducible apply zA); exact da) | ((with_reducible apply zS); exact ds) | ((with_reducible apply zY); exact rfl; exact rfl; exact tf) | ((with_reducible apply zG); exact rfl; exact rfl; exact tf) | ((with_reducible apply zU); exact rfl; exact rfl) | ((with_reducible apply zD); exact rfl; exact rfl) | ((with_reducible apply zB); exact rfl; exact rfl)))
    have := tmod_lt u v hz
    exact ⟨v, u.tmod v, ⟨⟨.inl hv1, by omega, hv2⟩, ⟨by omega, by omega⟩, by rw [gcd_step]; exact hd⟩, this, ⟨rfl, rfl, trivial⟩, trivial⟩
/-- In lowest terms. -/
def lowP (f : Int × Int) : Bool := decide (0 < f.2) && decide ((Int.gcd f.1 f.2 : Int) = 1)
theorem bIsLowest_A (f : Int × Int) (h : FrF f) : AC Tryz.prog 32 [F2 f] (B (lowP f)) := by
  obtain ⟨h1, h2⟩ := h
  unfold lowP
  by_cases hp : 0 < f.2
  · have hg := bgcd2_A f.1 f.2 h1 hp h2.2
    rw [decide_eq_true hp]
    refine ac_body Tryz.func32 rfl (by kernel_rfl) fun w0 ok => ?_; show AWp _ (ctx0 w0 ok _) _ (ARet _ _ _) (entry _)
    (repeat' (first | (with_reducible first | intro hg | refine mv (by constructor) ?_) | ((with_reducible first | refine zR ?_ ?_ | refine zW mixed ?_ ?_); exact kr) | ((with_reducible apply zK); exact rfl; exact tf) | ((with_reducible apply zCD); exact rfl) | ((with_reducible apply zCN); exact rfl) | ((with_reducible apply zC); exact rfl) | ((with_reducible refine zX ?_ ?_); exact rfl) | ((with_reducible refine zE (And.intro ?_ ?_)); exact kr) | (with_reducible refine zE ?_) | ((with_reducible apply zP); (first | exact dp | exact oc rfl (hg))) | ((with_reducible apply zN); exact dn) | ((with_reducible apply zA); exact da) | ((with_reducible apply zS); exact ds) | ((with_reducible apply zY); exact rfl; exact rfl; exact tf) | ((with_reducible apply zG); exact rfl; exact rfl; exact tf) | ((with_reducible apply zU); exact rfl; exact rfl) | ((with_reducible apply zD); exact rfl; exact rfl) | ((with_reducible apply zB); exact rfl; exact rfl)))
    ((with_reducible first | apply q_retR | apply q_retN); exact rl)
    rfl
  · rw [decide_eq_false hp]
    refine ac_body Tryz.func32 rfl (by kernel_rfl) fun w0 ok => ?_; show AWp _ (ctx0 w0 ok _) _ (ARet _ _ _) (entry _)
    (repeat' (first | (with_reducible first | intro hg | refine mv (by constructor) ?_) | ((with_reducible first | refine zR ?_ ?_ | refine zW mixed ?_ ?_); exact kr) | ((with_reducible apply zK); exact rfl; exact tf) | ((with_reducible apply zCD); exact rfl) | ((with_reducible apply zCN); exact rfl) | ((with_reducible apply zC); exact rfl) | ((with_reducible refine zX ?_ ?_); exact rfl) | ((with_reducible refine zE (And.intro ?_ ?_)); exact kr) | (with_reducible refine zE ?_) | ((with_reducible apply zP); exact dp) | ((with_reducible apply zN); exact dn) | ((with_reducible apply zA); exact da) | ((with_reducible apply zS); exact ds) | ((with_reducible apply zY); exact rfl; exact rfl; exact tf) | ((with_reducible apply zG); exact rfl; exact rfl; exact tf) | ((with_reducible apply zU); exact rfl; exact rfl) | ((with_reducible apply zD); exact rfl; exact rfl) | ((with_reducible apply zB); exact rfl; exact rfl)))
    ((with_reducible first | apply q_retR | apply q_retN); exact rl)
    rfl
theorem smF_bnd {f : Int × Int} (h1 : lowP f = true) (h : smF f = true) : (-1000000000 ≤ f.1 ∧ f.1 ≤ 1000000000) ∧ 0 < f.2 ∧ f.2 ≤ 1000000000 := by
  unfold smF at h
  unfold lowP at h1
  simp only [Bool.and_eq_true, decide_eq_true_eq] at h h1
  exact ⟨inR_iff.1 h.1, h1.1, h.2⟩
def sgnZ (x : Int) : Int := bif decide (x < 0) then -1 else bif decide (0 < x) then 1 else 0
theorem floor_lt {n d m k : Int} (hd : 0 < d) (hk : 0 < k) (h : n / d < m / k) : n * k - m * d < 0 := by
  have e1 : n / d * d + n % d = n := Int.ediv_mul_add_emod n d
  have e2 : m / k * k + m % k = m := Int.ediv_mul_add_emod m k
  have r1 := Int.emod_lt_of_pos n hd
  have r2 := Int.emod_nonneg m (by omega : k ≠ 0)
  generalize n / d = p at *
  generalize m / k = q at *
  generalize n % d = a at *
  generalize m % k = b at *
  subst e1 e2
  have h1 : a * k < d * k := Int.mul_lt_mul_of_pos_right r1 hk
  have h2 : (p + 1) * (d * k) ≤ q * (d * k) := Int.mul_le_mul_of_nonneg_right (by omega) (Int.le_of_lt (Int.mul_pos hd hk))
  have h3 : 0 ≤ b * d := Int.mul_nonneg r2 (Int.le_of_lt hd)
  have e : (p * d + a) * k - (q * k + b) * d = p * (d * k) + a * k - q * (d * k) - b * d := by grind
  have e3 : (p + 1) * (d * k) = p * (d * k) + d * k := by grind
  omega
theorem floor_eq {n d m k : Int} (h : n / d = m / k) : n * k - m * d = n % d * k - m % k * d := by
  have e1 : n / d * d + n % d = n := Int.ediv_mul_add_emod n d
  have e2 : m / k * k + m % k = m := Int.ediv_mul_add_emod m k
  rw [h] at e1
  generalize m / k = q at *
  generalize n % d = a at *
  generalize m % k = b at *
  subst e1 e2
  grind
theorem sgn_neg {x : Int} (h : x < 0) : sgnZ x = -1 := by unfold sgnZ; rw [decide_eq_true h]; rfl
theorem sgn_pos {x : Int} (h : 0 < x) : sgnZ x = 1 := by unfold sgnZ; rw [decide_eq_false (by omega), decide_eq_true h]; rfl
theorem sgn_zero {x : Int} (h : x = 0) : sgnZ x = 0 := by subst h; rfl
theorem compare2_A (n d m k : Int) (hn : -4611686018427387904 ≤ n ∧ n ≤ 4611686018427387904) (hm : -4611686018427387904 ≤ m ∧ m ≤ 4611686018427387904) (hd : 0 < d ∧ d ≤ 4611686018427387904) (hk : 0 < k ∧ k ≤ 4611686018427387904) :
    AC Tryz.prog 46 [I n, I d, I m, I k] (I (sgnZ (n * k - m * d))) := by
  refine ac_body Tryz.func46 rfl (by kernel_rfl) fun w0 ok => ?_; show AWp _ (ctx0 w0 ok _) _ (ARet _ _ _) (entry _)
  (repeat' (first | (with_reducible first | intro hg | refine mv (by constructor) ?_) | ((with_reducible first | refine zR ?_ ?_ | refine zW mixed ?_ ?_); exact kr) | ((with_reducible apply zK); exact rfl; exact tf) | ((with_reducible apply zCD); exact rfl) | ((with_reducible apply zCN); exact rfl) | ((with_reducible apply zC); exact rfl) | ((with_reducible refine zX ?_ ?_); exact rfl) | ((with_reducible refine zE (And.intro ?_ ?_)); exact kr) | (with_reducible refine zE ?_) | ((with_reducible apply zP); exact dp) | ((with_reducible apply zN); exact dn) | ((with_reducible apply zA); exact da) | ((with_reducible apply zS); exact ds) | ((with_reducible apply zY); exact rfl; exact rfl; exact tf) | ((with_reducible apply zG); exact rfl; exact rfl; exact tf) | ((with_reducible apply zU); exact rfl; exact rfl) | ((with_reducible apply zD); exact rfl; exact rfl) | ((with_reducible apply zB); exact rfl; exact rfl)))
  refine awp_loopL3 (fun (x y : Int) (z : Int × Int) => [(0, .d (I x)), (1, .d (I y)), (2, .d (I z.1)), (3, .d (I z.2))]) (fun _ _ _ => []) (fun x y z => (-4611686018427387904 ≤ x ∧ x ≤ 4611686018427387904) ∧ (-4611686018427387904 ≤ z.1 ∧ z.1 ≤ 4611686018427387904) ∧ (0 < y ∧ y ≤ 4611686018427387904) ∧ (0 < z.2 ∧ z.2 ≤ 4611686018427387904) ∧ x * z.2 - z.1 * y = n * k - m * d) (fun _ y z => (y + z.2).toNat) n d (m, k) ⟨hn, hm, hd, hk, rfl⟩ (And.intro rfl (And.intro rfl (And.intro rfl (And.intro rfl trivial)))) trivial fun x y z ⟨h1, h2, h3, h4, h5⟩ => ?_
  obtain ⟨u, v⟩ := z
  replace h2 : -4611686018427387904 ≤ u ∧ u ≤ 4611686018427387904 := h2
  replace h4 : 0 < v ∧ v ≤ 4611686018427387904 := h4
  replace h5 : x * v - u * y = n * k - m * d := h5
  show AWp _ _ _ _ ⟨frL [(0, .d (I x)), (1, .d (I y)), (2, .d (I u)), (3, .d (I v))], _⟩
  have f1 := bfloor_A x y ⟨by omega, by omega⟩ h3.1 (by omega)
  have f2 := bfloor_A u v ⟨by omega, by omega⟩ h4.1 (by omega)
  have e1 : x / y * y + x % y = x := Int.ediv_mul_add_emod x y
  have e2 : u / v * v + u % v = u := Int.ediv_mul_add_emod u v
  have r1 := Int.emod_lt_of_pos x h3.1
  have r2 := Int.emod_nonneg x (by omega : y ≠ 0)
  have r3 := Int.emod_lt_of_pos u h4.1
  have r4 := Int.emod_nonneg u (by omega : v ≠ 0)
  rcases Int.lt_trichotomy (x / y) (u / v) with hlt | heq | hgt
  · have hs := floor_lt h3.1 h4.1 hlt
    rw [h5] at hs
    rw [sgn_neg hs]
    (repeat' (first | (with_reducible first | intro hg | refine mv (by constructor) ?_) | ((with_reducible first | refine zR ?_ ?_ | refine zW mixed ?_ ?_); exact kr) | ((with_reducible apply zK); exact rfl; exact tf) | ((with_reducible apply zCD); exact rfl) | ((with_reducible apply zCN); exact rfl) | ((with_reducible apply zC); exact rfl) | ((with_reducible refine zX ?_ ?_); exact rfl) | ((with_reducible refine zE (And.intro ?_ ?_)); exact kr) | (with_reducible refine zE ?_) | ((with_reducible apply zP); (first | exact dp | exact oc rfl (f1) | exact oc rfl (f2))) | ((with_reducible apply zN); exact dn) | ((with_reducible apply zA); exact da) | ((with_reducible apply zS); exact ds) | ((with_reducible apply zY); exact rfl; exact rfl; exact tf) | ((with_reducible apply zG); exact rfl; exact rfl; exact tf) | ((with_reducible apply zU); exact rfl; exact rfl) | ((with_reducible apply zD); exact rfl; exact rfl) | ((with_reducible apply zB); exact rfl; exact rfl)))
    ((with_reducible first | apply q_retR | apply q_retN); exact rl)
    rfl
  · have hs := floor_eq heq
    rw [h5] at hs
    rw [heq] at f1
    have x1 : x - u / v * y = x % y := by rw [← heq]; omega
    have x2 : u - u / v * v = u % v := by omega
    by_cases z1 : x % y = 0
    · by_cases z2 : u % v = 0
      · rw [sgn_zero (by rw [hs, z1, z2]; simp)]
        (repeat' (first | (with_reducible first | intro hg | refine mv (by constructor) ?_) | ((with_reducible first | refine zR ?_ ?_ | refine zW mixed ?_ ?_); exact kr) | ((with_reducible apply zK); exact rfl; exact tf) | ((with_reducible apply zCD); exact rfl) | ((with_reducible apply zCN); exact rfl) | ((with_reducible apply zC); exact rfl) | ((with_reducible refine zX ?_ ?_); exact rfl) | ((with_reducible refine zE (And.intro ?_ ?_)); exact kr) | (with_reducible refine zE ?_) | ((with_reducible apply zP); (first | exact dp | exact oc rfl (f1) | exact oc rfl (f2))) | ((with_reducible apply zN); exact dn) | ((with_reducible apply zA); exact da) | ((with_reducible apply zS); exact ds) | ((with_reducible apply zY); exact rfl; exact rfl; exact tf) | ((with_reducible apply zG); exact rfl; exact rfl; exact tf) | ((with_reducible apply zU); exact rfl; exact rfl) | ((with_reducible apply zD); exact rfl; exact rfl) | ((with_reducible apply zB); exact rfl; exact rfl)))
        ((with_reducible first | apply q_retR | apply q_retN); exact rl)
        rfl
      · have hp : 0 < u % v * y := Int.mul_pos (by omega) h3.1
        rw [sgn_neg (by rw [hs, z1]; omega)]
        (repeat' (first | (with_reducible first | intro hg | refine mv (by constructor) ?_) | ((with_reducible first | refine zR ?_ ?_ | refine zW mixed ?_ ?_); exact kr) | ((with_reducible apply zK); exact rfl; exact tf) | ((with_reducible apply zCD); exact rfl) | ((with_reducible apply zCN); exact rfl) | ((with_reducible apply zC); exact rfl) | ((with_reducible refine zX ?_ ?_); exact rfl) | ((with_reducible refine zE (And.intro ?_ ?_)); exact kr) | (with_reducible refine zE ?_) | ((with_reducible apply zP); (first | exact dp | exact oc rfl (f1) | exact oc rfl (f2))) | ((with_reducible apply zN); exact dn) | ((with_reducible apply zA); exact da) | ((with_reducible apply zS); exact ds) | ((with_reducible apply zY); exact rfl; exact rfl; exact tf) | ((with_reducible apply zG); exact rfl; exact rfl; exact tf) | ((with_reducible apply zU); exact rfl; exact rfl) | ((with_reducible apply zD); exact rfl; exact rfl) | ((with_reducible apply zB); exact rfl; exact rfl)))
        ((with_reducible first | apply q_retR | apply q_retN); exact rl)
        rfl
    · by_cases z2 : u % v = 0
      · have hp : 0 < x % y * v := Int.mul_pos (by omega) h4.1
        rw [sgn_pos (by rw [hs, z2]; omega)]
        (repeat' (first | (with_reducible first | intro hg | refine mv (by constructor) ?_) | ((with_reducible first | refine zR ?_ ?_ | refine zW mixed ?_ ?_); exact kr) | ((with_reducible apply zK); exact rfl; exact tf) | ((with_reducible apply zCD); exact rfl) | ((with_reducible apply zCN); exact rfl) | ((with_reducible apply zC); exact rfl) | ((with_reducible refine zX ?_ ?_); exact rfl) | ((with_reducible refine zE (And.intro ?_ ?_)); exact kr) | (with_reducible refine zE ?_) | ((with_reducible apply zP); (first | exact dp | exact oc rfl (f1) | exact oc rfl (f2))) | ((with_reducible apply zN); exact dn) | ((with_reducible apply zA); exact da) | ((with_reducible apply zS); exact ds) | ((with_reducible apply zY); exact rfl; exact rfl; exact tf) | ((with_reducible apply zG); exact rfl; exact rfl; exact tf) | ((with_reducible apply zU); exact rfl; exact rfl) | ((with_reducible apply zD); exact rfl; exact rfl) | ((with_reducible apply zB); exact rfl; exact rfl)))
        ((with_reducible first | apply q_retR | apply q_retN); exact rl)
        rfl
      · (repeat' (first | (with_reducible first | intro hg | refine mv (by constructor) ?_) | ((with_reducible first | refine zR ?_ ?_ | refine zW mixed ?_ ?_); exact kr) | ((with_reducible apply zK); exact rfl; exact tf) | ((with_reducible apply zCD); exact rfl) | ((with_reducible apply zCN); exact rfl) | ((with_reducible apply zC); exact rfl) | ((with_reducible refine zX ?_ ?_); exact rfl) | ((with_reducible refine zE (And.intro ?_ ?_)); exact kr) | (with_reducible refine zE ?_) | ((with_reducible apply zP); (first | exact dp | exact oc rfl (f1) | exact oc rfl (f2))) | ((with_reducible apply zN); exact dn) | ((with_reducible apply zA); exact da) | ((with_reducible apply zS); exact ds) | ((with_reducible apply zY); exact rfl; exact rfl; exact tf) | ((with_reducible apply zG); exact rfl; exact rfl; exact tf) | ((with_reducible apply zU); exact rfl; exact rfl) | ((with_reducible apply zD); exact rfl; exact rfl) | ((with_reducible apply zB); exact rfl; exact rfl)))
        refine ⟨v, u - u / v * v, (y, x - u / v * y), ⟨by omega, by show _ ≤ y ∧ y ≤ _; omega, by omega, by show 0 < x - u / v * y ∧ x - u / v * y ≤ _; omega, ?_⟩, ?_, (And.intro rfl (And.intro rfl (And.intro rfl (And.intro rfl trivial)))), trivial⟩
        · show v * (x - u / v * y) - y * (u - u / v * v) = _
          rw [hs, x1, x2, Int.mul_comm v, Int.mul_comm y]
        · show (u - u / v * v + (x - u / v * y)).toNat < (y + v).toNat
          omega
  · have hs := floor_lt h4.1 h3.1 hgt
    rw [sgn_pos (by omega)]
    (repeat' (first | (with_reducible first | intro hg | refine mv (by constructor) ?_) | ((with_reducible first | refine zR ?_ ?_ | refine zW mixed ?_ ?_); exact kr) | ((with_reducible apply zK); exact rfl; exact tf) | ((with_reducible apply zCD); exact rfl) | ((with_reducible apply zCN); exact rfl) | ((with_reducible apply zC); exact rfl) | ((with_reducible refine zX ?_ ?_); exact rfl) | ((with_reducible refine zE (And.intro ?_ ?_)); exact kr) | (with_reducible refine zE ?_) | ((with_reducible apply zP); (first | exact dp | exact oc rfl (f1) | exact oc rfl (f2))) | ((with_reducible apply zN); exact dn) | ((with_reducible apply zA); exact da) | ((with_reducible apply zS); exact ds) | ((with_reducible apply zY); exact rfl; exact rfl; exact tf) | ((with_reducible apply zG); exact rfl; exact rfl; exact tf) | ((with_reducible apply zU); exact rfl; exact rfl) | ((with_reducible apply zD); exact rfl; exact rfl) | ((with_reducible apply zB); exact rfl; exact rfl)))
    ((with_reducible first | apply q_retR | apply q_retN); exact rl)
    rfl

end Go.Proofs.YtagpmpbmfjaiiaaGreatDoor
