/- Norms. -/
import Derived.Test.YtfcfmpdpjmbcnaaGreatDoorTa
import Derived.Test.YtfcfmpdpjmbcnaaGreatDoorUe
set_option linter.unusedVariables false
set_option linter.unusedSimpArgs false
namespace Go.Proofs.YtfcfmpdpjmbcnaaGreatDoor
open Go.RowKit
set_option maxRecDepth 20000
set_option maxHeartbeats 8000000

theorem pow_den {den : Int} (hd : 1 ≤ den ∧ den ≤ 10) : ∀ s : Nat, 1 ≤ den ^ s ∧ den ^ s ≤ 10 ^ s
  | 0 => by simp
  | s + 1 => by
    obtain ⟨h1, h2⟩ := pow_den hd s
    rw [Int.pow_succ, Int.pow_succ]
    constructor
    · have := Int.mul_le_mul h1 hd.1 (by omega) (by omega)
      omega
    · exact Int.mul_le_mul h2 hd.2 (by omega) (by omega)
theorem pow10 {s : Nat} (h : s ≤ 6) : (10 : Int) ^ s ≤ 1000000 := by
  have : 10 ^ s ≤ 10 ^ 6 := Nat.pow_le_pow_right (by decide) h
  have e : ((10 ^ s : Nat) : Int) = (10 : Int) ^ s := by rw [Int.natCast_pow]; rfl
  rw [← e]
  have e2 : (10 : Nat) ^ 6 = 1000000 := by decide
  omega
theorem pow_den6 {den : Int} (hd : 1 ≤ den ∧ den ≤ 10) {s : Nat} (h : s ≤ 6) : 1 ≤ den ^ s ∧ den ^ s ≤ 1000000 := ⟨(pow_den hd s).1, Int.le_trans (pow_den hd s).2 (pow10 h)⟩
theorem raised_A (den : Int) (hd : 1 ≤ den ∧ den ≤ 10) (s : Nat) (h : s ≤ 6) : AC Tryz.prog 70 [I den, I s] (I (den ^ s)) := by
  refine ac_body Tryz.func70 rfl (by kernel_rfl) fun w0 ok => ?_; show AWp _ (ctx0 w0 ok _) _ (ARet _ _ _) (entry _)
  (repeat' (first | (with_reducible first | intro hg | refine mv (by constructor) ?_) | ((with_reducible first | refine zR ?_ ?_ | refine zW mixed ?_ ?_); exact kr) | ((with_reducible apply zK); exact rfl; exact tf) | ((with_reducible apply zCD); exact rfl) | ((with_reducible apply zCN); exact rfl) | ((with_reducible apply zC); exact rfl) | ((with_reducible refine zX ?_ ?_); exact rfl) | ((with_reducible refine zE (And.intro ?_ ?_)); exact kr) | (with_reducible refine zE ?_) | ((with_reducible apply zP); exact dp) | ((with_reducible apply zN); exact dn) | ((with_reducible apply zA); exact da) | ((with_reducible apply zS); exact ds) | ((with_reducible apply zY); exact rfl; exact rfl; exact tf) | ((with_reducible apply zG); exact rfl; exact rfl; exact tf) | ((with_reducible apply zU); exact rfl; exact rfl) | ((with_reducible apply zD); exact rfl; exact rfl) | ((with_reducible apply zB); exact rfl; exact rfl)))
  refine awp_loopL (α := Nat) (fun k => [(0, .d (I den)), (5, .d (I (den ^ k))), (6, .d (I s)), (7, .d (I k))]) (fun _ => []) (fun k => k ≤ s) (fun k => s - k) 0 (Nat.zero_le _) (And.intro rfl (And.intro (congrArg (fun n : Int => AV.d (I n)) (Int.pow_zero _).symm) (And.intro (rfl) (And.intro (rfl) trivial)))) trivial fun k hk => ?_
  by_cases hlt : k < s
  · have h1 := pow_den6 hd (s := k + 1) (by omega)
    rw [Int.pow_succ] at h1
    have e : den ^ k * den = den ^ (k + 1) := (Int.pow_succ _ _).symm
    (repeat' (first | (with_reducible first | intro hg | refine mv (by constructor) ?_) | ((with_reducible first | refine zR ?_ ?_ | refine zW mixed ?_ ?_); exact kr) | ((with_reducible apply zK); exact rfl; exact tf) | ((with_reducible apply zCD); exact rfl) | ((with_reducible apply zCN); exact rfl) | ((with_reducible apply zC); exact rfl) | ((with_reducible refine zX ?_ ?_); exact rfl) | ((with_reducible refine zE (And.intro ?_ ?_)); exact kr) | (with_reducible refine zE ?_) | ((with_reducible apply zP); exact dp) | ((with_reducible apply zN); exact dn) | ((with_reducible apply zA); exact da) | ((with_reducible apply zS); exact ds) | ((with_reducible apply zY); exact rfl; exact rfl; exact tf) | ((with_reducible apply zG); exact rfl; exact rfl; exact tf) | ((with_reducible apply zU); exact rfl; exact rfl) | ((with_reducible apply zD); exact rfl; exact rfl) | ((with_reducible apply zB); exact rfl; exact rfl)))
    exact ⟨k + 1, hlt, by omega, (And.intro rfl (And.intro (congrArg (fun n : Int => AV.d (I n)) e) (And.intro (rfl) (And.intro (rfl) trivial)))), trivial⟩
  · obtain rfl : k = s := by omega
    exact zF
structure PrfOk (n s : Nat) (w : List Int) : Prop where
  s1 : 1 ≤ s
  s6 : s ≤ 6
  l : w.length = n
  w : ∀ x ∈ w, 1 ≤ x ∧ x ≤ 10
theorem PrfOk.nth {n s : Nat} {w : List Int} (h : PrfOk n s w) (j : Nat) : 0 ≤ nth w j ∧ nth w j ≤ 10 := by
  by_cases hj : j < w.length
  · have := h.w _ (nth_mem hj)
    omega
  · have : Go.Proofs.YtfcfmpdpjmbcnaaGreatDoor.nth w j = 0 := by
      unfold Go.Proofs.YtfcfmpdpjmbcnaaGreatDoor.nth
      rw [List.getD_eq_getElem?_getD, List.getElem?_eq_none (by omega)]; rfl
    omega
abbrev prfC (s : Nat) (w : List Int) : List DV := [I s, isl w]
theorem normF_SmF {M : Mx} {w : List Int} {dq : Int} {n : Nat} (h : ∀ i, i < n → (rowS M w i n).natAbs ≤ 100000000000 ∧ 0 < nth w i * dq ∧ nth w i * dq ≤ 10000000) : ∀ i, i ≤ n → (normF M w dq n i).1.natAbs ≤ 100000000000 ∧ 0 < (normF M w dq n i).2 ∧ (normF M w dq n i).2 ≤ 10000000
  | 0, _ => ⟨by show (0 : Int).natAbs ≤ _; decide, by show (0 : Int) < 1; decide, by show (1 : Int) ≤ _; decide⟩
  | i + 1, hi => by
    have ih := normF_SmF h i (by omega)
    obtain ⟨h1, h2, h3⟩ := h i (by omega)
    have hl := low_size (n := rowS M w i n) h2
    unfold normF
    cases fLt (normF M w dq n i) (low (rowS M w i n) (nth w i * dq))
    · exact ih
    · show (low (rowS M w i n) (nth w i * dq)).1.natAbs ≤ _ ∧ 0 < (low (rowS M w i n) (nth w i * dq)).2 ∧ (low (rowS M w i n) (nth w i * dq)).2 ≤ _
      omega
theorem prod_sm {x y : Int} (h1 : x.natAbs ≤ 100000000000) (h2 : 0 < y ∧ y ≤ 10000000) : Sm (x * y) := by
  have := mul_nat h1 (show y.natAbs ≤ 10000000 by omega)
  exact ⟨by omega, by omega⟩
theorem norm_A (c : List Rg) (den : Int) (h : LoopOk c den) (s : Nat) (w : List Int) (hp : PrfOk c.length s w) : AC Tryz.prog 54 [.agg [rgV c, I den], .agg (prfC s w)] (F2 (normF (powM c den c.length s) w (den ^ s) c.length c.length)) := by
  have wp := power_A c den h s hp.s6
  have wr1 := raised_A den h.d s hp.s6
  have hb := powM_bnd h s
  have h30 := pow30 hp.s6
  have hdp := pow_den6 h.d hp.s6
  have h3 := h.l3
  have hwl := hp.l
  have hrow := fun i j => rowS_bnd hb (w := w) hp.nth i j
  have hne : ∀ i, i < c.length → (rowS (powM c den c.length s) w i c.length).natAbs ≤ 100000000000 ∧ 0 < nth w i * den ^ s ∧ nth w i * den ^ s ≤ 10000000 := fun i hi => by
    obtain ⟨r1, r2⟩ := hrow i c.length
    have hm : c.length * (30 ^ s * 10) ≤ 3 * (30 ^ s * 10) := Nat.mul_le_mul_right _ h3
    have hw := hp.w _ (nth_mem (xs := w) (k := i) (by omega))
    have k1 : 0 < nth w i * den ^ s := Int.mul_pos (by omega) (by omega)
    have k2 : nth w i * den ^ s ≤ 10 * 1000000 := Int.mul_le_mul hw.2 hdp.2 (by omega) (by decide)
    omega
  have hnS := normF_SmF hne
  have hmk : ∀ i, i < c.length → (mkL c.length (powM c den c.length s)).getD i [] = lsR (powM c den c.length s i) c.length := fun i hi => mkL_row _ hi
  have hml := mkL_len c.length (powM c den c.length s)
  generalize hPM : powM c den c.length s = M at *
  generalize hdp2 : den ^ s = dq at *
  refine ac_body Tryz.func54 rfl (by kernel_rfl) fun w0 ok => ?_; show AWp _ (ctx0 w0 ok _) _ (ARet _ _ _) (entry _)
  (repeat' (first | (with_reducible first | intro hg | refine mv (by constructor) ?_) | ((with_reducible first | refine zR ?_ ?_ | refine zW mixed ?_ ?_); exact kr) | ((with_reducible apply zK); exact rfl; exact tf) | ((with_reducible apply zCD); exact rfl) | ((with_reducible apply zCN); exact rfl) | ((with_reducible apply zC); exact rfl) | ((with_reducible refine zX ?_ ?_); exact rfl) | ((with_reducible refine zE (And.intro ?_ ?_)); exact kr) | (with_reducible refine zE ?_) | ((with_reducible apply zP); (first | exact dp | exact oc rfl (wp))) | ((with_reducible apply zN); exact dn) | ((with_reducible apply zA); exact da) | ((with_reducible apply zS); exact ds) | ((with_reducible apply zY); exact rfl; exact rfl; exact tf) | ((with_reducible apply zG); exact rfl; exact rfl; exact tf) | ((with_reducible apply zU); exact rfl; exact rfl) | ((with_reducible apply zD); exact rfl; exact rfl) | ((with_reducible apply zB); exact rfl; exact rfl)))
  refine awp_loopL (α := Nat) (fun i => [(2, .ptr 2 0), (3, .ptr 3 0), (4, .ptr 4 0), (5, .ptr 5 0), (16, .d (mxV (mkL c.length M))), (17, .d (I c.length)), (18, .d (I i))]) (fun i => [(2, ⟨101, [rgV c, I den]⟩), (3, ⟨39, prfC s w⟩), (4, ⟨47, [I 0, I 0]⟩), (5, ⟨47, frC (normF M w dq c.length i)⟩)]) (fun i => i ≤ c.length) (fun i => c.length - i) 0 (Nat.zero_le _) (And.intro rfl (And.intro rfl (And.intro rfl (And.intro rfl (And.intro rfl (And.intro (congrArg (fun n : Nat => AV.d (I n)) hml) (And.intro (rfl) trivial))))))) (And.intro rfl (And.intro rfl (And.intro rfl (And.intro rfl trivial)))) fun i hi => ?_
  by_cases hin : i < c.length
  rotate_left
  · obtain rfl : i = c.length := by omega
    exact zF
  have hrwi := hmk i hin
  have hrl : ((mkL c.length M).getD i []).length = c.length := by rw [hrwi, lsR_length]
  (repeat' (first | (with_reducible first | intro hg | refine mv (by constructor) ?_) | ((with_reducible first | refine zR ?_ ?_ | refine zW mixed ?_ ?_); exact kr) | ((with_reducible apply zK); exact rfl; exact tf) | ((with_reducible apply zCD); exact rfl) | ((with_reducible apply zCN); exact rfl) | ((with_reducible apply zC); exact rfl) | ((with_reducible refine zX ?_ ?_); exact rfl) | ((with_reducible refine zE (And.intro ?_ ?_)); exact kr) | (with_reducible refine zE ?_) | ((with_reducible apply zP); (first | exact o_indexF [] (f := fun r => [rgV r]) rw1_len (by decide) rfl rfl (by omega) rfl | exact dp)) | ((with_reducible apply zN); exact dn) | ((with_reducible apply zA); exact da) | ((with_reducible apply zS); exact ds) | ((with_reducible apply zY); exact rfl; exact rfl; exact tf) | ((with_reducible apply zG); exact rfl; exact rfl; exact tf) | ((with_reducible apply zU); exact rfl; exact rfl) | ((with_reducible apply zD); exact rfl; exact rfl) | ((with_reducible apply zB); exact rfl; exact rfl)))
  refine awp_loopL (α := Nat) (fun j => [(2, .ptr 2 0), (3, .ptr 3 0), (4, .ptr 4 0), (5, .ptr 5 0), (6, .d (I i)), (8, .d (I (rowS M w i j))), (16, .d (mxV (mkL c.length M))), (17, .d (I c.length)), (18, .d (I i)), (23, .d (rgV ((mkL c.length M).getD i []))), (24, .d (I c.length)), (25, .d (I j))]) (fun j => [(2, ⟨101, [rgV c, I den]⟩), (3, ⟨39, prfC s w⟩), (4, ⟨47, [I 0, I 0]⟩), (5, ⟨47, frC (normF M w dq c.length i)⟩)]) (fun j => j ≤ c.length) (fun j => c.length - j) 0 (Nat.zero_le _) (And.intro rfl (And.intro rfl (And.intro rfl (And.intro rfl (And.intro rfl (And.intro rfl (And.intro rfl (And.intro rfl (And.intro rfl (And.intro rfl (And.intro (congrArg (fun n : Nat => AV.d (I n)) hrl) (And.intro (rfl) trivial)))))))))))) (And.intro rfl (And.intro rfl (And.intro rfl (And.intro rfl trivial)))) fun j hj => ?_
  by_cases hjn : j < c.length
  · have he : ((mkL c.length M).getD i []).getD j rg0 = M i j := by rw [hrwi, lsR_get _ hjn]
    have hr := hrow i j
    have hr2 := hrow i (j + 1)
    have hj1 : j * (30 ^ s * 10) ≤ 3 * (30 ^ s * 10) := Nat.mul_le_mul_right _ (by omega)
    have hj2 : (j + 1) * (30 ^ s * 10) ≤ 3 * (30 ^ s * 10) := Nat.mul_le_mul_right _ (by omega)
    obtain ⟨b1, b2⟩ := hb i j
    have hwj := hp.w _ (nth_mem (xs := w) (k := j) (by omega))
    have hs1 : rowS M w i (j + 1) = rowS M w i j + max ((M i j).1.natAbs : Int) ((M i j).2.natAbs : Int) * nth w j := rfl
    have z1 := size_A (M i j).1 ⟨by omega, by omega⟩
    have z2 := size_A (M i j).2 ⟨by omega, by omega⟩
    rw [← he] at hs1 b1 b2 z1 z2
    generalize 30 ^ s = K at *
    have hr3 : 0 ≤ rowS M w i j ∧ rowS M w i j ≤ 100000000000 := by omega
    have hr4 : 0 ≤ rowS M w i (j + 1) ∧ rowS M w i (j + 1) ≤ 100000000000 := by omega
    clear hr hr2 hj1 hj2 hrow hne hnS hmk hb he
    generalize rowS M w i j = S0 at *
    (repeat' (first | (with_reducible first | intro hg | refine mv (by constructor) ?_) | ((with_reducible first | refine zR ?_ ?_ | refine zW mixed ?_ ?_); exact kr) | ((with_reducible apply zK); exact rfl; exact tf) | ((with_reducible apply zCD); exact rfl) | ((with_reducible apply zCN); exact rfl) | ((with_reducible apply zC); exact rfl) | ((with_reducible refine zX ?_ ?_); exact rfl) | ((with_reducible refine zE (And.intro ?_ ?_)); exact kr) | (with_reducible refine zE ?_) | ((with_reducible apply zP); (first | exact o_indexF rg0 frC_len (by decide) rfl rfl (by omega) (by omega) | exact o_indexI (j := j) (xs := w) rfl rfl (by omega) rfl | exact dp | exact oc rfl (z1) | exact oc rfl (z2))) | ((with_reducible apply zN); exact dn) | ((with_reducible apply zA); exact da) | ((with_reducible apply zS); exact ds) | ((with_reducible apply zY); exact rfl; exact rfl; exact tf) | ((with_reducible apply zG); exact rfl; exact rfl; exact tf) | ((with_reducible apply zU); exact rfl; exact rfl) | ((with_reducible apply zD); exact rfl; exact rfl) | ((with_reducible apply zB); exact rfl; exact rfl)))
    exact ⟨j + 1, hjn, by omega, (And.intro rfl (And.intro rfl (And.intro rfl (And.intro rfl (And.intro rfl (And.intro (congrArg (fun n : Int => AV.d (I n)) hs1.symm) (And.intro (rfl) (And.intro (rfl) (And.intro (rfl) (And.intro (rfl) (And.intro (rfl) (And.intro (rfl) trivial)))))))))))), (And.intro rfl (And.intro rfl (And.intro rfl (And.intro rfl trivial))))⟩
  obtain rfl : j = c.length := by omega
  obtain ⟨n1, n2, n3⟩ := hne i hin
  obtain ⟨m1, m2, m3⟩ := hnS i (by omega)
  have hlo := low_size (n := rowS M w i c.length) n2
  have wl := lowest_A (rowS M w i c.length) (nth w i * dq) ⟨by omega, by omega⟩ n2 (by omega)
  have hN : normF M w dq c.length (i + 1) = bif fLt (normF M w dq c.length i) (low (rowS M w i c.length) (nth w i * dq)) then low (rowS M w i c.length) (nth w i * dq) else normF M w dq c.length i := rfl
  have wless := less_A (normF M w dq c.length i) (low (rowS M w i c.length) (nth w i * dq)) (prod_sm m1 (by omega)) (prod_sm (by omega) ⟨m2, m3⟩)
  generalize rowS M w i c.length = S0 at *
  generalize low S0 (nth w i * dq) = x at *
  generalize normF M w dq c.length i = N0 at *
  clear hnS hne hrow hb
  cases hc : fLt N0 x
  · rw [hc] at wless hN
    have hN : normF M w dq c.length (i + 1) = N0 := hN
    (repeat' (first | (with_reducible first | intro hg | refine mv (by constructor) ?_) | ((with_reducible first | refine zR ?_ ?_ | refine zW mixed ?_ ?_); exact kr) | ((with_reducible apply zK); exact rfl; exact tf) | ((with_reducible apply zCD); exact rfl) | ((with_reducible apply zCN); exact rfl) | ((with_reducible apply zC); exact rfl) | ((with_reducible refine zX ?_ ?_); exact rfl) | ((with_reducible refine zE (And.intro ?_ ?_)); exact kr) | (with_reducible refine zE ?_) | ((with_reducible apply zP); (first | exact o_indexI (j := i) (xs := w) rfl rfl (by omega) rfl | exact dp | exact oc rfl (wr1) | exact oc rfl (wl) | exact oc rfl (wless))) | ((with_reducible apply zN); exact dn) | ((with_reducible apply zA); exact da) | ((with_reducible apply zS); exact ds) | ((with_reducible apply zY); exact rfl; exact rfl; exact tf) | ((with_reducible apply zG); exact rfl; exact rfl; exact tf) | ((with_reducible apply zU); exact rfl; exact rfl) | ((with_reducible apply zD); exact rfl; exact rfl) | ((with_reducible apply zB); exact rfl; exact rfl)))
    exact ⟨i + 1, hin, by omega, (And.intro rfl (And.intro rfl (And.intro rfl (And.intro rfl (And.intro rfl (And.intro rfl (And.intro rfl trivial))))))), (And.intro rfl (And.intro rfl (And.intro rfl (And.intro (congrArg (fun f => some (Blk.mk _ (frC f))) hN.symm) trivial))))⟩
  · rw [hc] at wless hN
    have hN : normF M w dq c.length (i + 1) = x := hN
    (repeat' (first | (with_reducible first | intro hg | refine mv (by constructor) ?_) | ((with_reducible first | refine zR ?_ ?_ | refine zW mixed ?_ ?_); exact kr) | ((with_reducible apply zK); exact rfl; exact tf) | ((with_reducible apply zCD); exact rfl) | ((with_reducible apply zCN); exact rfl) | ((with_reducible apply zC); exact rfl) | ((with_reducible refine zX ?_ ?_); exact rfl) | ((with_reducible refine zE (And.intro ?_ ?_)); exact kr) | (with_reducible refine zE ?_) | ((with_reducible apply zP); (first | exact o_indexI (j := i) (xs := w) rfl rfl (by omega) rfl | exact dp | exact oc rfl (wr1) | exact oc rfl (wl) | exact oc rfl (wless))) | ((with_reducible apply zN); exact dn) | ((with_reducible apply zA); exact da) | ((with_reducible apply zS); exact ds) | ((with_reducible apply zY); exact rfl; exact rfl; exact tf) | ((with_reducible apply zG); exact rfl; exact rfl; exact tf) | ((with_reducible apply zU); exact rfl; exact rfl) | ((with_reducible apply zD); exact rfl; exact rfl) | ((with_reducible apply zB); exact rfl; exact rfl)))
    exact ⟨i + 1, hin, by omega, (And.intro rfl (And.intro rfl (And.intro rfl (And.intro rfl (And.intro rfl (And.intro rfl (And.intro rfl trivial))))))), (And.intro rfl (And.intro rfl (And.intro rfl (And.intro (congrArg (fun f => some (Blk.mk _ (frC f))) hN.symm) trivial))))⟩

end Go.Proofs.YtfcfmpdpjmbcnaaGreatDoor
/- The norm of a proof, exact loops. -/
set_option linter.unusedVariables false
set_option linter.unusedSimpArgs false
namespace Go.Proofs.YtfcfmpdpjmbcnaaGreatDoor
open Go.RowKit
set_option maxRecDepth 20000
set_option maxHeartbeats 8000000

theorem prf1_A (n : Int) : AC Tryz.prog 102 ([I n] ++ []) (B (!inR n 1 10)) := by
  refine ac_body Tryz.func102 rfl (by kernel_rfl) fun w0 ok => ?_; show AWp _ (ctx0 w0 ok _) _ (ARet _ _ _) (entry _)
  (repeat' (first | (with_reducible first | intro hg | refine mv (by constructor) ?_) | ((with_reducible first | refine zR ?_ ?_ | refine zW mixed ?_ ?_); exact kr) | ((with_reducible apply zK); exact rfl; exact tf) | ((with_reducible apply zCD); exact rfl) | ((with_reducible apply zCN); exact rfl) | ((with_reducible apply zC); exact rfl) | ((with_reducible refine zX ?_ ?_); exact rfl) | ((with_reducible refine zE (And.intro ?_ ?_)); exact kr) | (with_reducible refine zE ?_) | ((with_reducible apply zP); (first | exact dp | exact oc rfl (within_A _ _ _))) | ((with_reducible apply zN); exact dn) | ((with_reducible apply zA); exact da) | ((with_reducible apply zS); exact ds) | ((with_reducible apply zY); exact rfl; exact rfl; exact tf) | ((with_reducible apply zG); exact rfl; exact rfl; exact tf) | ((with_reducible apply zU); exact rfl; exact rfl) | ((with_reducible apply zD); exact rfl; exact rfl) | ((with_reducible apply zB); exact rfl; exact rfl)))
  ((with_reducible first | apply q_retR | apply q_retN); exact rl)
  rfl
theorem proofErr_ok (c : List Rg) (den : Int) (h : loE c den = 0) (s : Nat) (w : List Int) (hp : PrfOk c.length s w) : AC Tryz.prog 53 [.agg [rgV c, I den], .agg (prfC s w)] (I 0) := by
  have hL := loE_ok h
  have w1 := checkLoop_A c den (by have := hL.l3; omega)
  rw [h] at w1
  have hl := hp.l
  have hwl : w.length ≤ 140737488355328 := by have := hL.l3; omega
  have w2 := containsFunc_A 102 (EntI.eq (P := Tryz.prog) (f := 102)) .val (fun n => !inR n 1 10) w hwl (fun x _ => prf1_A x)
  have e2 : (w.any fun n => !inR n 1 10) = false := by
    rw [List.any_eq_false]
    intro x hx
    rw [inR_true.2 (hp.w x hx)]; decide
  rw [e2] at w2
  have w3 := within_A s 1 6
  rw [inR_true.2 (by have := hp.s1; have := hp.s6; omega)] at w3
  have u1 : AC Tryz.prog 47 [B (decide ((w.length : Int) = (c.length : Int))), I 10] (I 0) := by
    rw [decide_eq_true (by omega)]
    exact unless_A _ _
  refine ac_body Tryz.func53 rfl (by kernel_rfl) fun w0 ok => ?_; show AWp _ (ctx0 w0 ok _) _ (ARet _ _ _) (entry _)
  (repeat' (first | (with_reducible first | intro hg | refine mv (by constructor) ?_) | ((with_reducible first | refine zR ?_ ?_ | refine zW mixed ?_ ?_); exact kr) | ((with_reducible apply zK); exact rfl; exact tf) | ((with_reducible apply zCD); exact rfl) | ((with_reducible apply zCN); exact rfl) | ((with_reducible apply zC); exact rfl) | ((with_reducible refine zX ?_ ?_); exact rfl) | ((with_reducible refine zE (And.intro ?_ ?_)); exact kr) | (with_reducible refine zE ?_) | ((with_reducible apply zP); (first | exact dp | exact oc rfl (w1) | exact oc rfl (w2) | exact oc rfl (w3) | exact oc rfl (u1) | exact oc rfl (unless_A _ _) | exact oc rfl (first4_A _ _ _ _))) | ((with_reducible apply zN); exact dn) | ((with_reducible apply zA); exact da) | ((with_reducible apply zS); exact ds) | ((with_reducible apply zY); exact rfl; exact rfl; exact tf) | ((with_reducible apply zG); exact rfl; exact rfl; exact tf) | ((with_reducible apply zU); exact rfl; exact rfl) | ((with_reducible apply zD); exact rfl; exact rfl) | ((with_reducible apply zB); exact rfl; exact rfl)))
  ((with_reducible first | apply q_retR | apply q_retN); exact rl)
  rfl
theorem normOf_ok (c : List Rg) (den : Int) (h : loE c den = 0) (s : Nat) (w : List Int) (hp : PrfOk c.length s w) (x : Fr) (hx : normF (powM c den c.length s) w (den ^ s) c.length c.length = x) (x1 : x.1.natAbs ≤ 100000000000) (x2 : 0 < x.2 ∧ x.2 ≤ 10000000) :
    AC Tryz.prog 32 [.agg [rgV c, I den], .agg (prfC s w)] (.tuple [F2 (frcR x.1 x.2).1, I (frcR x.1 x.2).2]) := by
  have w1 := proofErr_ok c den h s w hp
  have w2 := norm_A c den (loE_ok h) s w hp
  rw [hx] at w2
  have w3 := fraction_A x.1 x.2 ⟨by omega, by omega⟩ x2.1 (by omega)
  refine ac_body Tryz.func32 rfl (by kernel_rfl) fun w0 ok => ?_; show AWp _ (ctx0 w0 ok _) _ (ARet _ _ _) (entry _)
  exact zF
theorem settles_A (f : Fr) : AC Tryz.prog 55 [F2 f] (B (decide (f.1 < f.2))) := by
  refine ac_body Tryz.func55 rfl (by kernel_rfl) fun w0 ok => ?_; show AWp _ (ctx0 w0 ok _) _ (ARet _ _ _) (entry _)
  exact zF
/-! Exact loops. -/
end Go.Proofs.YtfcfmpdpjmbcnaaGreatDoor
