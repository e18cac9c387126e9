/- Merged: XVg XVh XVi. -/
import Derived.Test.YtgjhikjnlcbmkaaVf
set_option linter.unusedVariables false
set_option linter.unusedSimpArgs false
/- Ratios of whole numbers of any size: walks. -/
namespace Go.Proofs.Ytgjhikjnlcbmkaa
open Go.RowKit
set_option maxRecDepth 20000
set_option maxHeartbeats 8000000

theorem wideSize_A (x : Int) : AC Try.prog 94 [wdV x] (wdV (x.natAbs : Int)) := by
  by_cases h : x < 0
  · have hs := Int.sign_eq_neg_one_of_neg h
    have a1 := wideNeg_A x
    have e : (x.natAbs : Int) = -x := by omega
    rw [e]
    refine ac_body Try.func94 rfl (by kernel_rfl) fun w0 ok => ?_; show AWp _ (ctx0 w0 ok _) _ (ARet _ _ _) (entry _)
    (repeat' (first | (with_reducible first | intro hg | refine mv (by constructor) ?_) | ((with_reducible first | refine zR ?_ ?_ | refine zW mixed ?_ ?_); exact kr) | ((with_reducible apply zK); exact rfl; exact tf) | ((with_reducible apply zCD); exact rfl) | ((with_reducible apply zCN); exact rfl) | ((with_reducible apply zC); exact rfl) | ((with_reducible refine zX ?_ ?_); exact rfl) | ((with_reducible refine zE (And.intro ?_ ?_)); exact kr) | (with_reducible refine zE ?_) | ((with_reducible apply zP); (first | exact dp | exact oc rfl (a1))) | ((with_reducible apply zN); exact dn) | ((with_reducible apply zA); exact da) | ((with_reducible apply zS); exact ds) | ((with_reducible apply zY); exact rfl; exact rfl; exact tf) | ((with_reducible apply zG); exact rfl; exact rfl; exact tf) | ((with_reducible apply zU); exact rfl; exact rfl) | ((with_reducible apply zD); exact rfl; exact rfl) | ((with_reducible apply zB); exact rfl; exact rfl)))
    ((with_reducible first | apply q_retR | apply q_retN); exact rl)
    rfl
  · have hs : 0 ≤ x.sign := by
      rcases Int.lt_trichotomy x 0 with h1 | h1 | h1
      · omega
      · rw [h1]; decide
      · rw [Int.sign_eq_one_of_pos h1]; decide
    have e : (x.natAbs : Int) = x := by omega
    rw [e]
    refine ac_body Try.func94 rfl (by kernel_rfl) fun w0 ok => ?_; show AWp _ (ctx0 w0 ok _) _ (ARet _ _ _) (entry _)
    (repeat' (first | (with_reducible first | intro hg | refine mv (by constructor) ?_) | ((with_reducible first | refine zR ?_ ?_ | refine zW mixed ?_ ?_); exact kr) | ((with_reducible apply zK); exact rfl; exact tf) | ((with_reducible apply zCD); exact rfl) | ((with_reducible apply zCN); exact rfl) | ((with_reducible apply zC); exact rfl) | ((with_reducible refine zX ?_ ?_); exact rfl) | ((with_reducible refine zE (And.intro ?_ ?_)); exact kr) | (with_reducible refine zE ?_) | ((with_reducible apply zP); exact dp) | ((with_reducible apply zN); exact dn) | ((with_reducible apply zA); exact da) | ((with_reducible apply zS); exact ds) | ((with_reducible apply zY); exact rfl; exact rfl; exact tf) | ((with_reducible apply zG); exact rfl; exact rfl; exact tf) | ((with_reducible apply zU); exact rfl; exact rfl) | ((with_reducible apply zD); exact rfl; exact rfl) | ((with_reducible apply zB); exact rfl; exact rfl)))
    ((with_reducible first | apply q_retR | apply q_retN); exact rl)
    rfl
theorem wlen_mono {x y : Int} (h : x.natAbs ≤ y.natAbs) : wlen x ≤ wlen y := dg_len_mono h
theorem wideGcd_A (x y : Int) (hx : wlen x ≤ 50000) (hy : wlen y ≤ 50000) : AC Try.prog 75 [wdV x, wdV y] (wdV (Int.gcd x y : Int)) := by
  have a1 := wideSize_A x
  have a2 := wideSize_A y
  refine ac_body Try.func75 rfl (by kernel_rfl) fun w0 ok => ?_; show AWp _ (ctx0 w0 ok _) _ (ARet _ _ _) (entry _)
  (repeat' (first | (with_reducible first | intro hg | refine mv (by constructor) ?_) | ((with_reducible first | refine zR ?_ ?_ | refine zW mixed ?_ ?_); exact kr) | ((with_reducible apply zK); exact rfl; exact tf) | ((with_reducible apply zCD); exact rfl) | ((with_reducible apply zCN); exact rfl) | ((with_reducible apply zC); exact rfl) | ((with_reducible refine zX ?_ ?_); exact rfl) | ((with_reducible refine zE (And.intro ?_ ?_)); exact kr) | (with_reducible refine zE ?_) | ((with_reducible apply zP); (first | exact dp | exact oc rfl (a1) | exact oc rfl (a2))) | ((with_reducible apply zN); exact dn) | ((with_reducible apply zA); exact da) | ((with_reducible apply zS); exact ds) | ((with_reducible apply zY); exact rfl; exact rfl; exact tf) | ((with_reducible apply zG); exact rfl; exact rfl; exact tf) | ((with_reducible apply zU); exact rfl; exact rfl) | ((with_reducible apply zD); exact rfl; exact rfl) | ((with_reducible apply zB); exact rfl; exact rfl)))
  refine awp_loopL2 (fun (_ _ : Nat) => [(2, .ptr 2 0), (3, .ptr 3 0), (4, .ptr 4 0)]) (fun u v => [(2, ⟨93, wdC u⟩), (3, ⟨93, wdC v⟩), (4, ⟨93, [I 0, nilV]⟩)]) (fun u v => Nat.gcd u v = Int.gcd x y ∧ wlen (u : Int) ≤ 50000 ∧ wlen (v : Int) ≤ 50000) (fun _ v => v) x.natAbs y.natAbs ⟨rfl, hx, hy⟩ (And.intro rfl (And.intro rfl (And.intro rfl trivial))) (And.intro rfl (And.intro rfl (And.intro rfl trivial))) fun u v ⟨hg, hu, hv⟩ => ?_
  have b1 := wideSign_A (v : Int)
  by_cases h0 : v = 0
  · subst h0
    rw [Nat.gcd_zero_right] at hg
    rw [← hg]
    have e : (((0 : Nat) : Int)).sign = 0 := rfl
    (repeat' (first | (with_reducible first | intro hg | refine mv (by constructor) ?_) | ((with_reducible first | refine zR ?_ ?_ | refine zW mixed ?_ ?_); exact kr) | ((with_reducible apply zK); exact rfl; exact tf) | ((with_reducible apply zCD); exact rfl) | ((with_reducible apply zCN); exact rfl) | ((with_reducible apply zC); exact rfl) | ((with_reducible refine zX ?_ ?_); exact rfl) | ((with_reducible refine zE (And.intro ?_ ?_)); exact kr) | (with_reducible refine zE ?_) | ((with_reducible apply zP); (first | exact dp | exact oc rfl (b1))) | ((with_reducible apply zN); exact dn) | ((with_reducible apply zA); exact da) | ((with_reducible apply zS); exact ds) | ((with_reducible apply zY); exact rfl; exact rfl; exact tf) | ((with_reducible apply zG); exact rfl; exact rfl; exact tf) | ((with_reducible apply zU); exact rfl; exact rfl) | ((with_reducible apply zD); exact rfl; exact rfl) | ((with_reducible apply zB); exact rfl; exact rfl)))
    ((with_reducible first | apply q_retR | apply q_retN); exact rl)
    rfl
  · have hs : (v : Int).sign = 1 := Int.sign_eq_one_of_pos (by omega)
    have hv' : (dg v).length ≤ 50000 := hv
    have b2 := wideFloor_A (u : Int) v (by omega) (by omega) (by omega)
    have hq : ((u : Int) / (v : Int)) = ((u / v : Nat) : Int) := rfl
    have hle : u / v ≤ u := Nat.div_le_self _ _
    have l1 : wlen ((u : Int) / (v : Int)) ≤ 50000 := Nat.le_trans (wlen_mono (by rw [hq]; exact hle)) hu
    have b3 := wideMul_A ((u : Int) / (v : Int)) (v : Int) (by omega) (by omega)
    have l2 := wlen_mul ((u : Int) / (v : Int)) (v : Int)
    have b4 := wideSub_A (u : Int) ((u : Int) / (v : Int) * (v : Int)) (by omega) (by omega)
    have e : (u : Int) - (u : Int) / (v : Int) * (v : Int) = ((u % v : Nat) : Int) := by
      have := Nat.div_add_mod u v
      have h2 : ((u / v : Nat) : Int) * (v : Int) = ((v * (u / v) : Nat) : Int) := by rw [Int.natCast_mul, Int.mul_comm]
      rw [hq, h2]; omega
    rw [e] at b4
    have hlt := Nat.mod_lt u (Nat.pos_of_ne_zero h0)
    have l3 : wlen ((u % v : Nat) : Int) ≤ 50000 := Nat.le_trans (wlen_mono (x := ((u % v : Nat) : Int)) (y := (v : Int)) (Nat.le_of_lt hlt)) hv
    have hg' : Nat.gcd v (u % v) = Int.gcd x y := by rw [← hg, Nat.gcd_comm u v, Nat.gcd_rec v u, Nat.gcd_comm]
    clear hq hle e
    (repeat' (first | (with_reducible first | intro hg | refine mv (by constructor) ?_) | ((with_reducible first | refine zR ?_ ?_ | refine zW mixed ?_ ?_); exact kr) | ((with_reducible apply zK); exact rfl; exact tf) | ((with_reducible apply zCD); exact rfl) | ((with_reducible apply zCN); exact rfl) | ((with_reducible apply zC); exact rfl) | ((with_reducible refine zX ?_ ?_); exact rfl) | ((with_reducible refine zE (And.intro ?_ ?_)); exact kr) | (with_reducible refine zE ?_) | ((with_reducible apply zP); (first | exact dp | exact oc rfl (b1) | exact oc rfl (b2) | exact oc rfl (b3) | exact oc rfl (b4))) | ((with_reducible apply zN); exact dn) | ((with_reducible apply zA); exact da) | ((with_reducible apply zS); exact ds) | ((with_reducible apply zY); exact rfl; exact rfl; exact tf) | ((with_reducible apply zG); exact rfl; exact rfl; exact tf) | ((with_reducible apply zU); exact rfl; exact rfl) | ((with_reducible apply zD); exact rfl; exact rfl) | ((with_reducible apply zB); exact rfl; exact rfl)))
    exact ⟨v, u % v, ⟨hg', hv, l3⟩, hlt, (And.intro rfl (And.intro rfl (And.intro rfl trivial))), (And.intro rfl (And.intro rfl (And.intro rfl trivial)))⟩
abbrev ratC (r : Rat) : List DV := [I r.num.sign, isl (dg r.num.natAbs), I (r.den : Int).sign, isl (dg (r.den : Int).natAbs)]
abbrev ratV (r : Rat) : DV := .agg (ratC r)
theorem ratioMk_pos (a : Int) {b : Int} (hb : 0 < b) : (Rat.divInt a b).num = a / (Int.gcd a b : Int) ∧ ((Rat.divInt a b).den : Int) = b / (Int.gcd a b : Int) := by
  have h1 := Rat.num_divInt a b
  have h2 := Rat.den_divInt a b
  rw [Int.sign_eq_one_of_pos hb, Int.one_mul] at h1
  rw [if_neg (by omega)] at h2
  refine ⟨by rw [h1, Int.gcd_comm], ?_⟩
  rw [h2, Int.gcd_comm b a, Int.natCast_ediv]
  congr 1
  omega
theorem ratioMake_pos (a b : Int) (hb : 0 < b) (ha : wlen a ≤ 50000) (hbl : wlen b ≤ 50000) : AC Try.prog 40 [wdV a, wdV b] (ratV (Rat.divInt a b)) := by
  obtain ⟨e1, e2⟩ := ratioMk_pos a hb
  have hs : b.sign = 1 := Int.sign_eq_one_of_pos hb
  have a1 := wideSign_A b
  have a2 := wideGcd_A a b ha hbl
  have a3 := bigOf_A 1 ⟨by decide, by decide⟩
  have hgp : 0 < Int.gcd a b := Int.gcd_pos_of_ne_zero_right a (by omega)
  have hgl : Int.gcd a b ≤ b.natAbs := Int.gcd_le_natAbs_right a (by omega)
  have l1 : wlen (Int.gcd a b : Int) ≤ 50000 := Nat.le_trans (wlen_mono (by show Int.gcd a b ≤ b.natAbs; exact hgl)) hbl
  have a4 := wideCmp_A (Int.gcd a b : Int) 1 (by omega) (Nat.le_trans (wlen_small ⟨by decide, by decide⟩) (by decide))
  by_cases hg : Int.gcd a b = 1
  · have hz : ((Int.gcd a b : Int) - 1).sign = 0 := by rw [hg]; rfl
    have e1' : (Rat.divInt a b).num = a := by rw [e1, hg]; exact Int.ediv_one a
    have e2' : ((Rat.divInt a b).den : Int) = b := by rw [e2, hg]; exact Int.ediv_one b
    have er : ratV (Rat.divInt a b) = .agg [I a.sign, isl (dg a.natAbs), I b.sign, isl (dg b.natAbs)] := by
      show DV.agg [I (Rat.divInt a b).num.sign, isl (dg (Rat.divInt a b).num.natAbs), I ((Rat.divInt a b).den : Int).sign, isl (dg ((Rat.divInt a b).den : Int).natAbs)] = _
      rw [e1', e2']
    rw [er]
    rw [hz] at a4
    clear e1 e2 e1' e2' er
    refine ac_body Try.func40 rfl (by kernel_rfl) fun w0 ok => ?_; show AWp _ (ctx0 w0 ok _) _ (ARet _ _ _) (entry _)
    (repeat' (first | (with_reducible first | intro hg | refine mv (by constructor) ?_) | ((with_reducible first | refine zR ?_ ?_ | refine zW mixed ?_ ?_); exact kr) | ((with_reducible apply zK); exact rfl; exact tf) | ((with_reducible apply zCD); exact rfl) | ((with_reducible apply zCN); exact rfl) | ((with_reducible apply zC); exact rfl) | ((with_reducible refine zX ?_ ?_); exact rfl) | ((with_reducible refine zE (And.intro ?_ ?_)); exact kr) | (with_reducible refine zE ?_) | ((with_reducible apply zP); (first | exact dp | exact oc rfl (a1) | exact oc rfl (a2) | exact oc rfl (a3) | exact oc rfl (a4))) | ((with_reducible apply zN); exact dn) | ((with_reducible apply zA); exact da) | ((with_reducible apply zS); exact ds) | ((with_reducible apply zY); exact rfl; exact rfl; exact tf) | ((with_reducible apply zG); exact rfl; exact rfl; exact tf) | ((with_reducible apply zU); exact rfl; exact rfl) | ((with_reducible apply zD); exact rfl; exact rfl) | ((with_reducible apply zB); exact rfl; exact rfl)))
    ((with_reducible first | apply q_retR | apply q_retN); exact rl)
    rfl
  · have hz : ((Int.gcd a b : Int) - 1).sign = 1 := Int.sign_eq_one_of_pos (by omega)
    have er : ratV (Rat.divInt a b) = .agg [I (a / (Int.gcd a b : Int)).sign, isl (dg (a / (Int.gcd a b : Int)).natAbs), I (b / (Int.gcd a b : Int)).sign, isl (dg (b / (Int.gcd a b : Int)).natAbs)] := by
      show DV.agg [I (Rat.divInt a b).num.sign, isl (dg (Rat.divInt a b).num.natAbs), I ((Rat.divInt a b).den : Int).sign, isl (dg ((Rat.divInt a b).den : Int).natAbs)] = _
      rw [e1, e2]
    rw [er]
    rw [hz] at a4
    have l1' : (dg (Int.gcd a b)).length ≤ 50000 := l1
    have b1 := wideFloor_A a (Int.gcd a b) hgp (by omega) (by omega)
    have b2 := wideFloor_A b (Int.gcd a b) hgp (by omega) (by omega)
    clear e1 e2 er
    refine ac_body Try.func40 rfl (by kernel_rfl) fun w0 ok => ?_; show AWp _ (ctx0 w0 ok _) _ (ARet _ _ _) (entry _)
    (repeat' (first | (with_reducible first | intro hg | refine mv (by constructor) ?_) | ((with_reducible first | refine zR ?_ ?_ | refine zW mixed ?_ ?_); exact kr) | ((with_reducible apply zK); exact rfl; exact tf) | ((with_reducible apply zCD); exact rfl) | ((with_reducible apply zCN); exact rfl) | ((with_reducible apply zC); exact rfl) | ((with_reducible refine zX ?_ ?_); exact rfl) | ((with_reducible refine zE (And.intro ?_ ?_)); exact kr) | (with_reducible refine zE ?_) | ((with_reducible apply zP); (first | exact dp | exact oc rfl (a1) | exact oc rfl (a2) | exact oc rfl (a3) | exact oc rfl (a4) | exact oc rfl (b1) | exact oc rfl (b2))) | ((with_reducible apply zN); exact dn) | ((with_reducible apply zA); exact da) | ((with_reducible apply zS); exact ds) | ((with_reducible apply zY); exact rfl; exact rfl; exact tf) | ((with_reducible apply zG); exact rfl; exact rfl; exact tf) | ((with_reducible apply zU); exact rfl; exact rfl) | ((with_reducible apply zD); exact rfl; exact rfl) | ((with_reducible apply zB); exact rfl; exact rfl)))
    ((with_reducible first | apply q_retR | apply q_retN); exact rl)
    rfl
theorem ratioMake_neg (a b c d : Int) (hb : 0 < b) (ha : wlen a ≤ 50000) (hbl : wlen b ≤ 50000) (hc : -c = a) (hd : -d = b) : AC Try.prog 40 [wdV c, wdV d] (ratV (Rat.divInt a b)) := by
  have n1 := wideNeg_A c
  have n2 := wideNeg_A d
  rw [hc] at n1
  rw [hd] at n2
  have hds : d.sign = -1 := Int.sign_eq_neg_one_of_neg (by omega)
  obtain ⟨e1, e2⟩ := ratioMk_pos a hb
  have hs : b.sign = 1 := Int.sign_eq_one_of_pos hb
  have a1 := wideSign_A d
  have a2 := wideGcd_A a b ha hbl
  have a3 := bigOf_A 1 ⟨by decide, by decide⟩
  have hgp : 0 < Int.gcd a b := Int.gcd_pos_of_ne_zero_right a (by omega)
  have hgl : Int.gcd a b ≤ b.natAbs := Int.gcd_le_natAbs_right a (by omega)
  have l1 : wlen (Int.gcd a b : Int) ≤ 50000 := Nat.le_trans (wlen_mono (by show Int.gcd a b ≤ b.natAbs; exact hgl)) hbl
  have a4 := wideCmp_A (Int.gcd a b : Int) 1 (by omega) (Nat.le_trans (wlen_small ⟨by decide, by decide⟩) (by decide))
  by_cases hg : Int.gcd a b = 1
  · have hz : ((Int.gcd a b : Int) - 1).sign = 0 := by rw [hg]; rfl
    have e1' : (Rat.divInt a b).num = a := by rw [e1, hg]; exact Int.ediv_one a
    have e2' : ((Rat.divInt a b).den : Int) = b := by rw [e2, hg]; exact Int.ediv_one b
    have er : ratV (Rat.divInt a b) = .agg [I a.sign, isl (dg a.natAbs), I b.sign, isl (dg b.natAbs)] := by
      show DV.agg [I (Rat.divInt a b).num.sign, isl (dg (Rat.divInt a b).num.natAbs), I ((Rat.divInt a b).den : Int).sign, isl (dg ((Rat.divInt a b).den : Int).natAbs)] = _
      rw [e1', e2']
    rw [er]
    rw [hz] at a4
    clear e1 e2 e1' e2' er
    refine ac_body Try.func40 rfl (by kernel_rfl) fun w0 ok => ?_; show AWp _ (ctx0 w0 ok _) _ (ARet _ _ _) (entry _)
    (repeat' (first | (with_reducible first | intro hg | refine mv (by constructor) ?_) | ((with_reducible first | refine zR ?_ ?_ | refine zW mixed ?_ ?_); exact kr) | ((with_reducible apply zK); exact rfl; exact tf) | ((with_reducible apply zCD); exact rfl) | ((with_reducible apply zCN); exact rfl) | ((with_reducible apply zC); exact rfl) | ((with_reducible refine zX ?_ ?_); exact rfl) | ((with_reducible refine zE (And.intro ?_ ?_)); exact kr) | (with_reducible refine zE ?_) | ((with_reducible apply zP); (first | exact dp | exact oc rfl (n1) | exact oc rfl (n2) | exact oc rfl (a1) | exact oc rfl (a2) | exact oc rfl (a3) | exact oc rfl (a4))) | ((with_reducible apply zN); exact dn) | ((with_reducible apply zA); exact da) | ((with_reducible apply zS); exact ds) | ((with_reducible apply zY); exact rfl; exact rfl; exact tf) | ((with_reducible apply zG); exact rfl; exact rfl; exact tf) | ((with_reducible apply zU); exact rfl; exact rfl) | ((with_reducible apply zD); exact rfl; exact rfl) | ((with_reducible apply zB); exact rfl; exact rfl)))
    ((with_reducible first | apply q_retR | apply q_retN); exact rl)
    rfl
  · have hz : ((Int.gcd a b : Int) - 1).sign = 1 := Int.sign_eq_one_of_pos (by omega)
    have er : ratV (Rat.divInt a b) = .agg [I (a / (Int.gcd a b : Int)).sign, isl (dg (a / (Int.gcd a b : Int)).natAbs), I (b / (Int.gcd a b : Int)).sign, isl (dg (b / (Int.gcd a b : Int)).natAbs)] := by
      show DV.agg [I (Rat.divInt a b).num.sign, isl (dg (Rat.divInt a b).num.natAbs), I ((Rat.divInt a b).den : Int).sign, isl (dg ((Rat.divInt a b).den : Int).natAbs)] = _
      rw [e1, e2]
    rw [er]
    rw [hz] at a4
    have l1' : (dg (Int.gcd a b)).length ≤ 50000 := l1
    have b1 := wideFloor_A a (Int.gcd a b) hgp (by omega) (by omega)
    have b2 := wideFloor_A b (Int.gcd a b) hgp (by omega) (by omega)
    clear e1 e2 er
    refine ac_body Try.func40 rfl (by kernel_rfl) fun w0 ok => ?_; show AWp _ (ctx0 w0 ok _) _ (ARet _ _ _) (entry _)
    (repeat' (first | (with_reducible first | intro hg | refine mv (by constructor) ?_) | ((with_reducible first | refine zR ?_ ?_ | refine zW mixed ?_ ?_); exact kr) | ((with_reducible apply zK); exact rfl; exact tf) | ((with_reducible apply zCD); exact rfl) | ((with_reducible apply zCN); exact rfl) | ((with_reducible apply zC); exact rfl) | ((with_reducible refine zX ?_ ?_); exact rfl) | ((with_reducible refine zE (And.intro ?_ ?_)); exact kr) | (with_reducible refine zE ?_) | ((with_reducible apply zP); (first | exact dp | exact oc rfl (n1) | exact oc rfl (n2) | exact oc rfl (a1) | exact oc rfl (a2) | exact oc rfl (a3) | exact oc rfl (a4) | exact oc rfl (b1) | exact oc rfl (b2))) | ((with_reducible apply zN); exact dn) | ((with_reducible apply zA); exact da) | ((with_reducible apply zS); exact ds) | ((with_reducible apply zY); exact rfl; exact rfl; exact tf) | ((with_reducible apply zG); exact rfl; exact rfl; exact tf) | ((with_reducible apply zU); exact rfl; exact rfl) | ((with_reducible apply zD); exact rfl; exact rfl) | ((with_reducible apply zB); exact rfl; exact rfl)))
    ((with_reducible first | apply q_retR | apply q_retN); exact rl)
    rfl
theorem ratioMake_A (a b : Int) (hb : b ≠ 0) (ha : wlen a ≤ 50000) (hbl : wlen b ≤ 50000) : AC Try.prog 40 [wdV a, wdV b] (ratV (Rat.divInt a b)) := by
  by_cases hp : 0 < b
  · exact ratioMake_pos a b hp ha hbl
  · rw [← Rat.neg_divInt_neg]
    exact ratioMake_neg (-a) (-b) a b (by omega) (by rw [wlen_neg]; exact ha) (by rw [wlen_neg]; exact hbl) rfl rfl
def RatS (k : Nat) (r : Rat) : Prop := wlen r.num ≤ k ∧ wlen (r.den : Int) ≤ k
theorem RatS.mono {k l : Nat} {r : Rat} (h : RatS k r) (hl : k ≤ l) : RatS l r := ⟨Nat.le_trans h.1 hl, Nat.le_trans h.2 hl⟩
theorem wlen_div (x : Int) (g : Nat) : wlen (x / (g : Int)) ≤ wlen x := wlen_mono (by
  by_cases hx : x.natAbs < (x / (g : Int)).natAbs
  · exact absurd hx (by
      have := Int.natAbs_ediv_le_natAbs x g
      omega)
  · omega)
theorem wlen_add (x y : Int) : wlen (x + y) ≤ wlen x + wlen y + 1 := by
  have h1 : wlen (x + y) ≤ (dg (x.natAbs + y.natAbs)).length := dg_len_mono (Int.natAbs_add_le x y)
  have h2 := dg_len_add x.natAbs y.natAbs
  exact Nat.le_trans h1 h2
theorem ratS_divInt (a : Int) {b : Int} (hb : 0 < b) {k : Nat} (ha : wlen a ≤ k) (hbl : wlen b ≤ k) : RatS k (Rat.divInt a b) := by
  obtain ⟨e1, e2⟩ := ratioMk_pos a hb
  exact ⟨by rw [e1]; exact Nat.le_trans (wlen_div _ _) ha, by rw [e2]; exact Nat.le_trans (wlen_div _ _) hbl⟩
theorem rat_add_eq (p q : Rat) : Rat.divInt (p.num * (q.den : Int) + q.num * (p.den : Int)) ((p.den : Int) * (q.den : Int)) = p + q := by
  rw [Rat.add_def', ← Rat.divInt_ofNat, Int.natCast_mul]
theorem rat_mul_eq (p q : Rat) : Rat.divInt (p.num * q.num) ((p.den : Int) * (q.den : Int)) = p * q := by
  rw [Rat.mul_def', ← Rat.divInt_ofNat, Int.natCast_mul]
theorem den_pos (p : Rat) : 0 < (p.den : Int) := by have := p.den_nz; omega
theorem den2_pos (p q : Rat) : 0 < (p.den : Int) * (q.den : Int) := Int.mul_pos (den_pos p) (den_pos q)
theorem RatS.add {k l : Nat} {p q : Rat} (hp : RatS k p) (hq : RatS l q) : RatS (k + l + k + l + 1) (p + q) := by
  rw [← rat_add_eq]
  have h1 := wlen_mul p.num (q.den : Int)
  have h2 := wlen_mul q.num (p.den : Int)
  have h3 := wlen_add (p.num * (q.den : Int)) (q.num * (p.den : Int))
  have h4 := wlen_mul (p.den : Int) (q.den : Int)
  obtain ⟨a, b⟩ := hp
  obtain ⟨c, d⟩ := hq
  exact ratS_divInt _ (den2_pos p q) (by omega) (by omega)
theorem RatS.mul {k l : Nat} {p q : Rat} (hp : RatS k p) (hq : RatS l q) : RatS (k + l) (p * q) := by
  rw [← rat_mul_eq]
  have h1 := wlen_mul p.num q.num
  have h4 := wlen_mul (p.den : Int) (q.den : Int)
  obtain ⟨a, b⟩ := hp
  obtain ⟨c, d⟩ := hq
  exact ratS_divInt _ (den2_pos p q) (by omega) (by omega)
theorem ratioAdd_A {p q : Rat} (hp : RatS 10000 p) (hq : RatS 10000 q) : AC Try.prog 92 [ratV p, ratV q] (ratV (p + q)) := by
  obtain ⟨a, b⟩ := hp
  obtain ⟨c, d⟩ := hq
  have a1 := wideMul_A p.num (q.den : Int) (by omega) (by omega)
  have a2 := wideMul_A q.num (p.den : Int) (by omega) (by omega)
  have h1 := wlen_mul p.num (q.den : Int)
  have h2 := wlen_mul q.num (p.den : Int)
  have a3 := wideAdd_A (p.num * (q.den : Int)) (q.num * (p.den : Int)) (by omega) (by omega)
  have h3 := wlen_add (p.num * (q.den : Int)) (q.num * (p.den : Int))
  have a4 := wideMul_A (p.den : Int) (q.den : Int) (by omega) (by omega)
  have h4 := wlen_mul (p.den : Int) (q.den : Int)
  have hd := den2_pos p q
  have a5 := ratioMake_A (p.num * (q.den : Int) + q.num * (p.den : Int)) ((p.den : Int) * (q.den : Int)) (by omega) (by omega) (by omega)
  rw [rat_add_eq] at a5
  clear a b c d h1 h2 h3 h4 hd
  refine ac_body Try.func92 rfl (by kernel_rfl) fun w0 ok => ?_; show AWp _ (ctx0 w0 ok _) _ (ARet _ _ _) (entry _)
  (repeat' (first | (with_reducible first | intro hg | refine mv (by constructor) ?_) | ((with_reducible first | refine zR ?_ ?_ | refine zW mixed ?_ ?_); exact kr) | ((with_reducible apply zK); exact rfl; exact tf) | ((with_reducible apply zCD); exact rfl) | ((with_reducible apply zCN); exact rfl) | ((with_reducible apply zC); exact rfl) | ((with_reducible refine zX ?_ ?_); exact rfl) | ((with_reducible refine zE (And.intro ?_ ?_)); exact kr) | (with_reducible refine zE ?_) | ((with_reducible apply zP); (first | exact dp | exact oc rfl (a1) | exact oc rfl (a2) | exact oc rfl (a3) | exact oc rfl (a4) | exact oc rfl (a5))) | ((with_reducible apply zN); exact dn) | ((with_reducible apply zA); exact da) | ((with_reducible apply zS); exact ds) | ((with_reducible apply zY); exact rfl; exact rfl; exact tf) | ((with_reducible apply zG); exact rfl; exact rfl; exact tf) | ((with_reducible apply zU); exact rfl; exact rfl) | ((with_reducible apply zD); exact rfl; exact rfl) | ((with_reducible apply zB); exact rfl; exact rfl)))
  ((with_reducible first | apply q_retR | apply q_retN); exact rl)
  rfl
theorem ratioMul_A {p q : Rat} (hp : RatS 10000 p) (hq : RatS 10000 q) : AC Try.prog 39 [ratV p, ratV q] (ratV (p * q)) := by
  obtain ⟨a, b⟩ := hp
  obtain ⟨c, d⟩ := hq
  have a1 := wideMul_A p.num q.num (by omega) (by omega)
  have h1 := wlen_mul p.num q.num
  have a4 := wideMul_A (p.den : Int) (q.den : Int) (by omega) (by omega)
  have h4 := wlen_mul (p.den : Int) (q.den : Int)
  have hd := den2_pos p q
  have a5 := ratioMake_A (p.num * q.num) ((p.den : Int) * (q.den : Int)) (by omega) (by omega) (by omega)
  rw [rat_mul_eq] at a5
  clear a b c d h1 h4 hd
  refine ac_body Try.func39 rfl (by kernel_rfl) fun w0 ok => ?_; show AWp _ (ctx0 w0 ok _) _ (ARet _ _ _) (entry _)
  (repeat' (first | (with_reducible first | intro hg | refine mv (by constructor) ?_) | ((with_reducible first | refine zR ?_ ?_ | refine zW mixed ?_ ?_); exact kr) | ((with_reducible apply zK); exact rfl; exact tf) | ((with_reducible apply zCD); exact rfl) | ((with_reducible apply zCN); exact rfl) | ((with_reducible apply zC); exact rfl) | ((with_reducible refine zX ?_ ?_); exact rfl) | ((with_reducible refine zE (And.intro ?_ ?_)); exact kr) | (with_reducible refine zE ?_) | ((with_reducible apply zP); (first | exact dp | exact oc rfl (a1) | exact oc rfl (a4) | exact oc rfl (a5))) | ((with_reducible apply zN); exact dn) | ((with_reducible apply zA); exact da) | ((with_reducible apply zS); exact ds) | ((with_reducible apply zY); exact rfl; exact rfl; exact tf) | ((with_reducible apply zG); exact rfl; exact rfl; exact tf) | ((with_reducible apply zU); exact rfl; exact rfl) | ((with_reducible apply zD); exact rfl; exact rfl) | ((with_reducible apply zB); exact rfl; exact rfl)))
  ((with_reducible first | apply q_retR | apply q_retN); exact rl)
  rfl
theorem wlen_int {n : Int} (h : I64 n) : wlen n ≤ 3 := dg_len_le (by
  obtain ⟨h1, h2⟩ := h
  have : (1000000000 : Int) ^ 3 = 1000000000000000000000000000 := by decide
  omega)
theorem ratioInt_A (n : Int) (hn : I64 n) : AC Try.prog 37 [I n] (ratV (n : Rat)) := by
  have a1 := bigOf_A n hn
  have a2 := bigOf_A 1 ⟨by decide, by decide⟩
  have er : ratV (n : Rat) = .agg [I n.sign, isl (dg n.natAbs), I (1 : Int).sign, isl (dg (1 : Int).natAbs)] := rfl
  rw [er]
  refine ac_body Try.func37 rfl (by kernel_rfl) fun w0 ok => ?_; show AWp _ (ctx0 w0 ok _) _ (ARet _ _ _) (entry _)
  (repeat' (first | (with_reducible first | intro hg | refine mv (by constructor) ?_) | ((with_reducible first | refine zR ?_ ?_ | refine zW mixed ?_ ?_); exact kr) | ((with_reducible apply zK); exact rfl; exact tf) | ((with_reducible apply zCD); exact rfl) | ((with_reducible apply zCN); exact rfl) | ((with_reducible apply zC); exact rfl) | ((with_reducible refine zX ?_ ?_); exact rfl) | ((with_reducible refine zE (And.intro ?_ ?_)); exact kr) | (with_reducible refine zE ?_) | ((with_reducible apply zP); (first | exact dp | exact oc rfl (a1) | exact oc rfl (a2))) | ((with_reducible apply zN); exact dn) | ((with_reducible apply zA); exact da) | ((with_reducible apply zS); exact ds) | ((with_reducible apply zY); exact rfl; exact rfl; exact tf) | ((with_reducible apply zG); exact rfl; exact rfl; exact tf) | ((with_reducible apply zU); exact rfl; exact rfl) | ((with_reducible apply zD); exact rfl; exact rfl) | ((with_reducible apply zB); exact rfl; exact rfl)))
  ((with_reducible first | apply q_retR | apply q_retN); exact rl)
  rfl
theorem ratioSign_A (p : Rat) : AC Try.prog 70 [ratV p] (I p.num.sign) := by
  have a1 := wideSign_A p.num
  refine ac_body Try.func70 rfl (by kernel_rfl) fun w0 ok => ?_; show AWp _ (ctx0 w0 ok _) _ (ARet _ _ _) (entry _)
  (repeat' (first | (with_reducible first | intro hg | refine mv (by constructor) ?_) | ((with_reducible first | refine zR ?_ ?_ | refine zW mixed ?_ ?_); exact kr) | ((with_reducible apply zK); exact rfl; exact tf) | ((with_reducible apply zCD); exact rfl) | ((with_reducible apply zCN); exact rfl) | ((with_reducible apply zC); exact rfl) | ((with_reducible refine zX ?_ ?_); exact rfl) | ((with_reducible refine zE (And.intro ?_ ?_)); exact kr) | (with_reducible refine zE ?_) | ((with_reducible apply zP); (first | exact dp | exact oc rfl (a1))) | ((with_reducible apply zN); exact dn) | ((with_reducible apply zA); exact da) | ((with_reducible apply zS); exact ds) | ((with_reducible apply zY); exact rfl; exact rfl; exact tf) | ((with_reducible apply zG); exact rfl; exact rfl; exact tf) | ((with_reducible apply zU); exact rfl; exact rfl) | ((with_reducible apply zD); exact rfl; exact rfl) | ((with_reducible apply zB); exact rfl; exact rfl)))
  ((with_reducible first | apply q_retR | apply q_retN); exact rl)
  rfl

end Go.Proofs.Ytgjhikjnlcbmkaa

/- Ratios of whole numbers of any size: signs, comparisons, quotients. -/
namespace Go.Proofs.Ytgjhikjnlcbmkaa
open Go.RowKit
set_option maxRecDepth 20000
set_option maxHeartbeats 8000000

theorem ratioNeg_A (p : Rat) : AC Try.prog 93 [ratV p] (ratV (-p)) := by
  have a1 := wideNeg_A p.num
  have er : ratV (-p) = .agg [I (-p.num).sign, isl (dg (-p.num).natAbs), I (p.den : Int).sign, isl (dg (p.den : Int).natAbs)] := rfl
  rw [er]
  refine ac_body Try.func93 rfl (by kernel_rfl) fun w0 ok => ?_; show AWp _ (ctx0 w0 ok _) _ (ARet _ _ _) (entry _)
  (repeat' (first | (with_reducible first | intro hg | refine mv (by constructor) ?_) | ((with_reducible first | refine zR ?_ ?_ | refine zW mixed ?_ ?_); exact kr) | ((with_reducible apply zK); exact rfl; exact tf) | ((with_reducible apply zCD); exact rfl) | ((with_reducible apply zCN); exact rfl) | ((with_reducible apply zC); exact rfl) | ((with_reducible refine zX ?_ ?_); exact rfl) | ((with_reducible refine zE (And.intro ?_ ?_)); exact kr) | (with_reducible refine zE ?_) | ((with_reducible apply zP); (first | exact dp | exact oc rfl (a1))) | ((with_reducible apply zN); exact dn) | ((with_reducible apply zA); exact da) | ((with_reducible apply zS); exact ds) | ((with_reducible apply zY); exact rfl; exact rfl; exact tf) | ((with_reducible apply zG); exact rfl; exact rfl; exact tf) | ((with_reducible apply zU); exact rfl; exact rfl) | ((with_reducible apply zD); exact rfl; exact rfl) | ((with_reducible apply zB); exact rfl; exact rfl)))
  ((with_reducible first | apply q_retR | apply q_retN); exact rl)
  rfl
theorem RatS.neg {k : Nat} {p : Rat} (h : RatS k p) : RatS k (-p) := ⟨by show wlen (-p.num) ≤ k; rw [wlen_neg]; exact h.1, h.2⟩
theorem ratioSub_A {p q : Rat} (hp : RatS 10000 p) (hq : RatS 10000 q) : AC Try.prog 72 [ratV p, ratV q] (ratV (p - q)) := by
  have a1 := ratioNeg_A q
  have a2 := ratioAdd_A hp hq.neg
  rw [← Rat.sub_eq_add_neg] at a2
  refine ac_body Try.func72 rfl (by kernel_rfl) fun w0 ok => ?_; show AWp _ (ctx0 w0 ok _) _ (ARet _ _ _) (entry _)
  (repeat' (first | (with_reducible first | intro hg | refine mv (by constructor) ?_) | ((with_reducible first | refine zR ?_ ?_ | refine zW mixed ?_ ?_); exact kr) | ((with_reducible apply zK); exact rfl; exact tf) | ((with_reducible apply zCD); exact rfl) | ((with_reducible apply zCN); exact rfl) | ((with_reducible apply zC); exact rfl) | ((with_reducible refine zX ?_ ?_); exact rfl) | ((with_reducible refine zE (And.intro ?_ ?_)); exact kr) | (with_reducible refine zE ?_) | ((with_reducible apply zP); (first | exact dp | exact oc rfl (a1) | exact oc rfl (a2))) | ((with_reducible apply zN); exact dn) | ((with_reducible apply zA); exact da) | ((with_reducible apply zS); exact ds) | ((with_reducible apply zY); exact rfl; exact rfl; exact tf) | ((with_reducible apply zG); exact rfl; exact rfl; exact tf) | ((with_reducible apply zU); exact rfl; exact rfl) | ((with_reducible apply zD); exact rfl; exact rfl) | ((with_reducible apply zB); exact rfl; exact rfl)))
  ((with_reducible first | apply q_retR | apply q_retN); exact rl)
  rfl
theorem RatS.sub {k l : Nat} {p q : Rat} (hp : RatS k p) (hq : RatS l q) : RatS (k + l + k + l + 1) (p - q) := by
  rw [Rat.sub_eq_add_neg]; exact hp.add hq.neg
theorem rat_div_eq (p q : Rat) : Rat.divInt (p.num * (q.den : Int)) ((p.den : Int) * q.num) = p / q := by
  rw [Rat.div_def, Rat.inv_def]
  have h := Rat.divInt_mul_divInt p.num (q.den : Int) (d₁ := (p.den : Int)) (d₂ := q.num)
  have e : Rat.divInt p.num (p.den : Int) = p := Rat.num_divInt_den p
  rw [e] at h
  exact h.symm
theorem RatS.div {k l : Nat} {p q : Rat} (hp : RatS k p) (hq : RatS l q) (h0 : q ≠ 0) : RatS (k + l) (p / q) := by
  rw [← rat_div_eq]
  have h1 := wlen_mul p.num (q.den : Int)
  have h4 := wlen_mul (p.den : Int) q.num
  obtain ⟨a, b⟩ := hp
  obtain ⟨c, d⟩ := hq
  have hq0 : q.num ≠ 0 := fun e => h0 (Rat.num_eq_zero.1 e)
  by_cases hp : 0 < q.num
  · exact ratS_divInt _ (Int.mul_pos (den_pos p) hp) (by omega) (by omega)
  · rw [← Rat.neg_divInt_neg]
    have h5 : 0 < -((p.den : Int) * q.num) := by
      rw [← Int.mul_neg]
      exact Int.mul_pos (den_pos p) (by omega)
    exact ratS_divInt _ h5 (by rw [wlen_neg]; omega) (by rw [wlen_neg]; omega)
theorem ratioDiv_A {p q : Rat} (hp : RatS 10000 p) (hq : RatS 10000 q) (h0 : q ≠ 0) : AC Try.prog 71 [ratV p, ratV q] (ratV (p / q)) := by
  obtain ⟨a, b⟩ := hp
  obtain ⟨c, d⟩ := hq
  have a1 := wideMul_A p.num (q.den : Int) (by omega) (by omega)
  have h1 := wlen_mul p.num (q.den : Int)
  have a4 := wideMul_A (p.den : Int) q.num (by omega) (by omega)
  have h4 := wlen_mul (p.den : Int) q.num
  have hq0 : q.num ≠ 0 := fun e => h0 (Rat.num_eq_zero.1 e)
  have hd : (p.den : Int) * q.num ≠ 0 := Int.mul_ne_zero (by have := den_pos p; omega) hq0
  have a5 := ratioMake_A (p.num * (q.den : Int)) ((p.den : Int) * q.num) hd (by omega) (by omega)
  rw [rat_div_eq] at a5
  clear a b c d h1 h4 hd
  refine ac_body Try.func71 rfl (by kernel_rfl) fun w0 ok => ?_; show AWp _ (ctx0 w0 ok _) _ (ARet _ _ _) (entry _)
  (repeat' (first | (with_reducible first | intro hg | refine mv (by constructor) ?_) | ((with_reducible first | refine zR ?_ ?_ | refine zW mixed ?_ ?_); exact kr) | ((with_reducible apply zK); exact rfl; exact tf) | ((with_reducible apply zCD); exact rfl) | ((with_reducible apply zCN); exact rfl) | ((with_reducible apply zC); exact rfl) | ((with_reducible refine zX ?_ ?_); exact rfl) | ((with_reducible refine zE (And.intro ?_ ?_)); exact kr) | (with_reducible refine zE ?_) | ((with_reducible apply zP); (first | exact dp | exact oc rfl (a1) | exact oc rfl (a4) | exact oc rfl (a5))) | ((with_reducible apply zN); exact dn) | ((with_reducible apply zA); exact da) | ((with_reducible apply zS); exact ds) | ((with_reducible apply zY); exact rfl; exact rfl; exact tf) | ((with_reducible apply zG); exact rfl; exact rfl; exact tf) | ((with_reducible apply zU); exact rfl; exact rfl) | ((with_reducible apply zD); exact rfl; exact rfl) | ((with_reducible apply zB); exact rfl; exact rfl)))
  ((with_reducible first | apply q_retR | apply q_retN); exact rl)
  rfl

end Go.Proofs.Ytgjhikjnlcbmkaa

/- Ratios as fractions. -/
namespace Go.Proofs.Ytgjhikjnlcbmkaa
open Go.RowKit
set_option maxRecDepth 20000
set_option maxHeartbeats 8000000

theorem sign_cases (x : Int) : x.sign = -1 ∨ x.sign = 0 ∨ x.sign = 1 := by
  rcases Int.lt_trichotomy x 0 with h | h | h
  · exact .inl (Int.sign_eq_neg_one_of_neg h)
  · exact .inr (.inl (by rw [h]; rfl))
  · exact .inr (.inr (Int.sign_eq_one_of_pos h))
theorem wval_drop {l : List Int} {j : Nat} (h : j < l.length) : wval (l.drop j) = nth l j + 1000000000 * wval (l.drop (j + 1)) := by
  rw [drop_getD h]; rfl
theorem wval_two {l : List Int} (h : WDg l) (h2 : l.length ≤ 2) (j : Nat) : 0 ≤ wval (l.drop j) ∧ wval (l.drop j) < 1000000000000000000 := by
  have h1 := wval_lt (h.drop j)
  have h3 := wval_nn (h.drop j)
  have h4 : (l.drop j).length ≤ 2 := by rw [List.length_drop]; omega
  have h5 : (1000000000 : Int) ^ (l.drop j).length ≤ 1000000000000000000 := by
    generalize (l.drop j).length = m at h4
    match m, h4 with
    | 0, _ => decide
    | 1, _ => decide
    | 2, _ => decide
  omega
theorem wideInt_ok (x : Int) (h : wlen x ≤ 2) : AC Try.prog 42 [wdV x] (.tuple [I x, B true]) := by
  have e := Int.sign_mul_natAbs x
  have hv := dg_val x.natAbs
  have hd := dg_WDg x.natAbs
  have h : (dg x.natAbs).length ≤ 2 := h
  show AC _ _ [DV.agg [I x.sign, isl (dg x.natAbs)]] _
  rw [← hv] at e
  generalize dg x.natAbs = l at *
  have hs := sign_cases x
  generalize x.sign = s at *
  refine ac_body Try.func42 rfl (by kernel_rfl) fun w0 ok => ?_; show AWp _ (ctx0 w0 ok _) _ (ARet _ _ _) (entry _)
  (repeat' (first | (with_reducible first | intro hg | refine mv (by constructor) ?_) | ((with_reducible first | refine zR ?_ ?_ | refine zW mixed ?_ ?_); exact kr) | ((with_reducible apply zK); exact rfl; exact tf) | ((with_reducible apply zCD); exact rfl) | ((with_reducible apply zCN); exact rfl) | ((with_reducible apply zC); exact rfl) | ((with_reducible refine zX ?_ ?_); exact rfl) | ((with_reducible refine zE (And.intro ?_ ?_)); exact kr) | (with_reducible refine zE ?_) | ((with_reducible apply zP); exact dp) | ((with_reducible apply zN); exact dn) | ((with_reducible apply zA); exact da) | ((with_reducible apply zS); exact ds) | ((with_reducible apply zY); exact rfl; exact rfl; exact tf) | ((with_reducible apply zG); exact rfl; exact rfl; exact tf) | ((with_reducible apply zU); exact rfl; exact rfl) | ((with_reducible apply zD); exact rfl; exact rfl) | ((with_reducible apply zB); exact rfl; exact rfl)))
  refine awp_loopL (α := Nat) (fun k => [(1, .ptr 1 0), (4, .d (I (wval (l.drop (l.length - k))))), (5, .d (I ((l.length : Int) - k - 1)))]) (fun _ => [(1, ⟨93, [I s, isl l]⟩)]) (fun k => k ≤ l.length) (fun k => l.length - k) 0 (Nat.zero_le _) (And.intro rfl (And.intro (congrArg (fun n : Int => AV.d (I n)) (by rw [Nat.sub_zero, List.drop_length]; rfl)) (And.intro (congrArg (fun n : Int => AV.d (I n)) (by omega)) trivial))) (And.intro rfl trivial) fun k hk => ?_
  by_cases hlt : k < l.length
  · obtain ⟨j, hj⟩ : ∃ j, l.length - k = j + 1 := ⟨l.length - k - 1, by omega⟩
    have e1 : (l.length : Int) - k - 1 = (j : Nat) := by omega
    have e2 : l.length - (k + 1) = j := by omega
    have hw := wval_drop (l := l) (j := j) (by omega)
    have h2 := wval_two hd h (j + 1)
    have h3 := hd.nth j
    have h4 := wval_two hd h j
    rw [hj, e1]
    generalize wval (l.drop (j + 1)) = v at *
    have hw' : v * 1000000000 + nth l j = wval (l.drop (l.length - (k + 1))) := by rw [e2, hw]; omega
    have hb1 : v * 1000000000 ≤ 2000000000000000000 := by omega
    (repeat' (first | (with_reducible first | intro hg | refine mv (by constructor) ?_) | ((with_reducible first | refine zR ?_ ?_ | refine zW mixed ?_ ?_); exact kr) | ((with_reducible apply zK); exact rfl; exact tf) | ((with_reducible apply zCD); exact rfl) | ((with_reducible apply zCN); exact rfl) | ((with_reducible apply zC); exact rfl) | ((with_reducible refine zX ?_ ?_); exact rfl) | ((with_reducible refine zE (And.intro ?_ ?_)); exact kr) | (with_reducible refine zE ?_) | ((with_reducible apply zP); (first | exact o_indexI (xs := l) (j := j) rfl rfl (by omega) rfl | exact dp)) | ((with_reducible apply zN); exact dn) | ((with_reducible apply zA); exact da) | ((with_reducible apply zS); exact ds) | ((with_reducible apply zY); exact rfl; exact rfl; exact tf) | ((with_reducible apply zG); exact rfl; exact rfl; exact tf) | ((with_reducible apply zU); exact rfl; exact rfl) | ((with_reducible apply zD); exact rfl; exact rfl) | ((with_reducible apply zB); exact rfl; exact rfl)))
    exact ⟨k + 1, hlt, by omega, (And.intro rfl (And.intro (congrArg (fun n : Int => AV.d (I n)) hw') (And.intro (congrArg (fun n : Int => AV.d (I n)) (by omega)) trivial))), (And.intro rfl trivial)⟩
  · obtain rfl : k = l.length := by omega
    have h4 := wval_two hd h 0
    have e1 : (l.length : Int) - l.length - 1 = -1 := by omega
    rw [List.drop_zero] at h4
    rw [Nat.sub_self, List.drop_zero, e1]
    rcases hs with rfl | rfl | rfl
    all_goals
      (repeat' (first | (with_reducible first | intro hg | refine mv (by constructor) ?_) | ((with_reducible first | refine zR ?_ ?_ | refine zW mixed ?_ ?_); exact kr) | ((with_reducible apply zK); exact rfl; exact tf) | ((with_reducible apply zCD); exact rfl) | ((with_reducible apply zCN); exact rfl) | ((with_reducible apply zC); exact rfl) | ((with_reducible refine zX ?_ ?_); exact rfl) | ((with_reducible refine zE (And.intro ?_ ?_)); exact kr) | (with_reducible refine zE ?_) | ((with_reducible apply zP); exact dp) | ((with_reducible apply zN); exact dn) | ((with_reducible apply zA); exact da) | ((with_reducible apply zS); exact ds) | ((with_reducible apply zY); exact rfl; exact rfl; exact tf) | ((with_reducible apply zG); exact rfl; exact rfl; exact tf) | ((with_reducible apply zU); exact rfl; exact rfl) | ((with_reducible apply zD); exact rfl; exact rfl) | ((with_reducible apply zB); exact rfl; exact rfl)))
      ((with_reducible first | apply q_retR | apply q_retN); exact rl)
      exact congrArg (fun n => DV.tuple [I n, B true]) (show x = _ by omega)
end Go.Proofs.Ytgjhikjnlcbmkaa
