/- Merged: XBr XBs XBt. -/
import Derived.Test.YtgjhikjnlcbmkaaW4
set_option linter.unusedVariables false
set_option linter.unusedSimpArgs false
/- Walk: FitOf. -/
namespace Go.Proofs.Ytgjhikjnlcbmkaa
open Go.RowKit
set_option maxRecDepth 20000
set_option maxHeartbeats 4000000

def f5V (d : Int) (f : Nat → Int) : List DV := [I d, I (f 0), I (f 1), I (f 2), I (f 3)]
theorem f5V_get {d : Int} {f : Nat → Int} {j : Nat} (h : j < 4) : ((f5V d f).drop (0 + 1 + (j : Int).toNat * 1))[0]? = some (I (f j)) := by
  rcases lt4 h with rfl | rfl | rfl | rfl <;> rfl
theorem f5V_set {d : Int} {f g : Nat → Int} {j : Nat} (h : j < 4) (v : Int) (hg : ∀ i, i < 4 → g i = if i = j then v else f i) : spl (f5V d f) (0 + 1 + (j : Int).toNat * 1) [I v] = f5V d g := by
  unfold f5V
  rw [hg 0 (by omega), hg 1 (by omega), hg 2 (by omega), hg 3 (by omega)]
  rcases lt4 h with rfl | rfl | rfl | rfl <;> rfl
theorem f5V_congr {d : Int} {f g : Nat → Int} (h : ∀ r, r < 4 → f r = g r) : f5V d f = f5V d g := by
  unfold f5V; rw [h 0 (by omega), h 1 (by omega), h 2 (by omega), h 3 (by omega)]
abbrev fit0 : DV := .agg [I 0, I 0, I 0, I 0, I 0]

theorem det4_A (m : Nat → Nat → Int) (T q : Nat) (hT : 1 ≤ T) (hT2 : T ≤ 1000000) (hq : q < 4) (hm : MB m 240 T q) : AC Try.prog 27 [.agg (mcV m), I 0, .agg [B false, B false, B false, B false]] (I (det4 m)) :=
  determinant_A m T q hT hT2 hq hm 4 false false false false 0 (Nat.le_refl _) rfl

theorem fitOf_err (xs : List Int) (nm0 : ByteArray) (p0 o0 : Int) (nm1 : ByteArray) (p1 o1 : Int) (hm : xs.length ≤ 140737488355328) (hs0 : nm0.size ≤ 140737488355328) (hp0 : I64 p0) (hs1 : nm1.size ≤ 140737488355328) (hp1 : I64 p1) (he : pairErr xs nm0 p0 o0 nm1 p1 o1 ≠ 0) :
    AC Try.prog 7 [isl xs, drums2 nm0 p0 o0 nm1 p1 o1] (.tuple [fit0, I (pairErr xs nm0 p0 o0 nm1 p1 o1)]) := by
  refine ac_body Try.func7 rfl (by kernel_rfl) fun w0 ok => ?_; show AWp _ (ctx0 w0 ok _) _ (ARet _ _ _) (entry _)
  (repeat' (first | (with_reducible first | intro hg | refine mv (by constructor) ?_) | ((with_reducible first | refine zR ?_ ?_ | refine zW mixed ?_ ?_); exact kr) | ((with_reducible apply zK); exact rfl; exact tf) | ((with_reducible apply zCD); exact rfl) | ((with_reducible apply zCN); exact rfl) | ((with_reducible apply zC); exact rfl) | ((with_reducible refine zX ?_ ?_); exact rfl) | ((with_reducible refine zE (And.intro ?_ ?_)); exact kr) | (with_reducible refine zE ?_) | ((with_reducible apply zP); (first | exact dp | exact oc rfl (openPair_A _ _ _ _ _ _ _ hm hs0 hp0 hs1 hp1))) | ((with_reducible apply zN); exact dn) | ((with_reducible apply zA); exact da) | ((with_reducible apply zS); exact ds) | ((with_reducible apply zY); exact rfl; exact rfl; exact tf) | ((with_reducible apply zG); exact rfl; exact rfl; exact tf) | ((with_reducible apply zU); exact rfl; exact rfl) | ((with_reducible apply zD); exact rfl; exact rfl) | ((with_reducible apply zB); exact rfl; exact rfl)))
  ((with_reducible first | apply q_retR | apply q_retN); exact rl)
  rfl

theorem fitOf_A (xs : List Int) (nm0 : ByteArray) (p0 o0 : Int) (nm1 : ByteArray) (p1 o1 : Int) (hs0 : nm0.size ≤ 140737488355328) (hp0 : I64 p0) (hs1 : nm1.size ≤ 140737488355328) (hp1 : I64 p1) (he : pairErr xs nm0 p0 o0 nm1 p1 o1 = 0)
    (M : Nat → Nat → Int) (R : Nat → Int) (hM : M = eqM (fun k i => W4 p0 o0 p1 o1 k i) xs.length) (hR : R = eqR (fun k i => W4 p0 o0 p1 o1 k i) xs xs.length) (res : DV)
    (h12 : fitDen M = 0 → res = .tuple [fit0, I 12]) (h8 : fitDen M ≠ 0 → fitAll M R = false → res = .tuple [fit0, I 8]) (h0 : fitDen M ≠ 0 → fitAll M R = true → res = .tuple [.agg (f5V (fitD M R) (fitQ M R)), I 0]) :
    AC Try.prog 7 [isl xs, drums2 nm0 p0 o0 nm1 p1 o1] res := by
  obtain ⟨e1, e2, e3⟩ := pair_ok he
  obtain ⟨_, hm, hB⟩ := rec_ok e1
  have hd0 := (drum_ok e2).1
  have hd1 := (drum_ok e3).1
  have heq := equations_A nm0 nm1 p0 o0 p1 o1 xs (by omega) hB hd0 hd1 (fun k i => W4 p0 o0 p1 o1 k i) (fun _ _ => rfl)
  have hE : EqB M R := by rw [hM, hR]; exact eq_bnd (fun k i => W4_one _ _ _ _ _ _) hB hm
  rw [← hM, ← hR] at heq
  clear hM hR
  have hden := det4_A M 1 0 (by omega) (by omega) (by omega) hE.m
  have hdb := hE.den
  by_cases hz : fitDen M = 0
  · have hz' : det4 M = 0 := hz
    rw [h12 hz]
    refine ac_body Try.func7 rfl (by kernel_rfl) fun w0 ok => ?_; show AWp _ (ctx0 w0 ok _) _ (ARet _ _ _) (entry _)
    (repeat' (first | (with_reducible first | intro hg | refine mv (by constructor) ?_) | ((with_reducible first | refine zR ?_ ?_ | refine zW mixed ?_ ?_); exact kr) | ((with_reducible apply zK); exact rfl; exact tf) | ((with_reducible apply zCD); exact rfl) | ((with_reducible apply zCN); exact rfl) | ((with_reducible apply zC); exact rfl) | ((with_reducible refine zX ?_ ?_); exact rfl) | ((with_reducible refine zE (And.intro ?_ ?_)); exact kr) | (with_reducible refine zE ?_) | ((with_reducible apply zP); (first | exact dp | exact oc rfl (openPair_A _ _ _ _ _ _ _ (by omega) hs0 hp0 hs1 hp1) | exact oc rfl (heq) | exact oc rfl (hden))) | ((with_reducible apply zN); exact dn) | ((with_reducible apply zA); exact da) | ((with_reducible apply zS); exact ds) | ((with_reducible apply zY); exact rfl; exact rfl; exact tf) | ((with_reducible apply zG); exact rfl; exact rfl; exact tf) | ((with_reducible apply zU); exact rfl; exact rfl) | ((with_reducible apply zD); exact rfl; exact rfl) | ((with_reducible apply zB); exact rfl; exact rfl)))
    ((with_reducible first | apply q_retR | apply q_retN); exact rl)
    rfl
  · have hz' : det4 M ≠ 0 := hz
    refine ac_body Try.func7 rfl (by kernel_rfl) fun w0 ok => ?_; show AWp _ (ctx0 w0 ok _) _ (ARet _ _ _) (entry _)
    (repeat' (first | (with_reducible first | intro hg | refine mv (by constructor) ?_) | ((with_reducible first | refine zR ?_ ?_ | refine zW mixed ?_ ?_); exact kr) | ((with_reducible apply zK); exact rfl; exact tf) | ((with_reducible apply zCD); exact rfl) | ((with_reducible apply zCN); exact rfl) | ((with_reducible apply zC); exact rfl) | ((with_reducible refine zX ?_ ?_); exact rfl) | ((with_reducible refine zE (And.intro ?_ ?_)); exact kr) | (with_reducible refine zE ?_) | ((with_reducible apply zP); (first | exact dp | exact oc rfl (openPair_A _ _ _ _ _ _ _ (by omega) hs0 hp0 hs1 hp1) | exact oc rfl (heq) | exact oc rfl (hden))) | ((with_reducible apply zN); exact dn) | ((with_reducible apply zA); exact da) | ((with_reducible apply zS); exact ds) | ((with_reducible apply zY); exact rfl; exact rfl; exact tf) | ((with_reducible apply zG); exact rfl; exact rfl; exact tf) | ((with_reducible apply zU); exact rfl; exact rfl) | ((with_reducible apply zD); exact rfl; exact rfl) | ((with_reducible apply zB); exact rfl; exact rfl)))
    refine awp_loopL (α := Nat) (fun j => [(4, .ptr 4 0), (5, .d (I 0)), (8, .ptr 8 0), (9, .ptr 9 0), (10, .ptr 10 0), (11, .d (I (fitG M R j))), (41, .d (I j))])
      (fun j => [(4, ⟨34, [I 0, I 0, I 0, I 0, I 0]⟩), (8, ⟨75, mcV M⟩), (9, ⟨32, f4V R⟩), (10, ⟨34, f5V (fitDen M) (fun c => if c < j then fitPart M R c else 0)⟩)]) (fun j => j ≤ 4) (fun j => 4 - j) 0 (Nat.zero_le _) (And.intro rfl (And.intro rfl (And.intro rfl (And.intro rfl (And.intro rfl (And.intro rfl (And.intro rfl trivial))))))) (And.intro rfl (And.intro rfl (And.intro rfl (And.intro rfl trivial)))) fun j hj => ?_
    by_cases hj4 : j < 4
    · (repeat' (first | (with_reducible first | intro hg | refine mv (by constructor) ?_) | ((with_reducible first | refine zR ?_ ?_ | refine zW mixed ?_ ?_); exact kr) | ((with_reducible apply zK); exact rfl; exact tf) | ((with_reducible apply zCD); exact rfl) | ((with_reducible apply zCN); exact rfl) | ((with_reducible apply zC); exact rfl) | ((with_reducible refine zX ?_ ?_); exact rfl) | ((with_reducible refine zE (And.intro ?_ ?_)); exact kr) | (with_reducible refine zE ?_) | ((with_reducible apply zP); exact dp) | ((with_reducible apply zN); exact dn) | ((with_reducible apply zA); exact da) | ((with_reducible apply zS); exact ds) | ((with_reducible apply zY); exact rfl; exact rfl; exact tf) | ((with_reducible apply zG); exact rfl; exact rfl; exact tf) | ((with_reducible apply zU); exact rfl; exact rfl) | ((with_reducible apply zD); exact rfl; exact rfl) | ((with_reducible apply zB); exact rfl; exact rfl)))
      refine awp_loopL (α := Nat) (fun i => [(4, .ptr 4 0), (5, .d (I 0)), (8, .ptr 8 0), (9, .ptr 9 0), (10, .ptr 10 0), (11, .d (I (fitG M R j))), (12, .d (I j)), (13, .ptr 13 0), (41, .d (I j)), (45, .d (I i))])
        (fun i => [(4, ⟨34, [I 0, I 0, I 0, I 0, I 0]⟩), (8, ⟨75, mcV M⟩), (9, ⟨32, f4V R⟩), (10, ⟨34, f5V (fitDen M) (fun c => if c < j then fitPart M R c else 0)⟩), (13, ⟨75, mcV (colTo M R j i)⟩)]) (fun i => i ≤ 4) (fun i => 4 - i) 0 (Nat.zero_le _) (And.intro rfl (And.intro rfl (And.intro rfl (And.intro rfl (And.intro rfl (And.intro rfl (And.intro rfl (And.intro rfl (And.intro rfl (And.intro rfl trivial)))))))))) (And.intro rfl (And.intro rfl (And.intro rfl (And.intro rfl (And.intro (congrArg (fun m => some (Blk.mk _ (mcV m))) (colTo_zero M R j).symm) trivial))))) fun i hi => ?_
      by_cases hi4 : i < 4
      · (repeat' (first | (with_reducible first | intro hg | refine mv (by constructor) ?_) | ((with_reducible first | refine zR ?_ ?_ | refine zW mixed ?_ ?_); exact kr) | ((with_reducible apply zK); exact rfl; exact tf) | ((with_reducible apply zCD); exact rfl) | ((with_reducible apply zCN); exact rfl) | ((with_reducible apply zC); exact rfl) | ((with_reducible refine zX ?_ ?_); exact rfl) | ((with_reducible refine zE (And.intro ?_ ?_)); exact kr) | (with_reducible refine zE ?_) | ((with_reducible apply zP); (first | exact o_load1 rfl rfl (f4V_get hi4) | exact dp)) | ((with_reducible apply zN); exact dn) | ((with_reducible apply zA); exact da) | ((with_reducible apply zS); (first | exact o_store rfl rfl rfl rfl (by rfl) (by show _ ≤ 16; omega) (mcV_set hi4 hj4 _ fun a c _ _ => colTo_step M R j i a c) | exact ds)) | ((with_reducible apply zY); exact rfl; exact rfl; exact tf) | ((with_reducible apply zG); exact rfl; exact rfl; exact tf) | ((with_reducible apply zU); exact rfl; exact rfl) | ((with_reducible apply zD); exact rfl; exact rfl) | ((with_reducible apply zB); exact rfl; exact rfl)))
        refine ⟨i + 1, by omega, by omega, (And.intro rfl (And.intro rfl (And.intro rfl (And.intro rfl (And.intro rfl (And.intro rfl (And.intro rfl (And.intro rfl (And.intro rfl (And.intro rfl trivial)))))))))), (And.intro rfl (And.intro rfl (And.intro rfl (And.intro rfl (And.intro rfl trivial)))))⟩
      · have hi5 : i = 4 := by omega
        subst hi5
        have hdet := det4_A (colTo M R j 4) 1000000 j (by omega) (by omega) hj4 (hE.col j 4)
        have hg := hE.g j (by omega)
        have hp := hE.part j hj4
        have hdiv := divisor_A (fitG M R j) (fitPart M R j) (Sm_of hg) (Sm_of hp)
        have hset : ∀ i, i < 4 → (fun c => if c < j + 1 then fitPart M R c else 0) i = if i = j then det4 (colTo M R j 4) else (fun c => if c < j then fitPart M R c else 0) i := fun i _ => by
          show (if i < j + 1 then fitPart M R i else 0) = if i = j then fitPart M R j else if i < j then fitPart M R i else 0
          by_cases h : i = j
          · subst h; rw [if_pos rfl, if_pos (by omega)]
          · rw [if_neg h]; by_cases h2 : i < j
            · rw [if_pos h2, if_pos (by omega)]
            · rw [if_neg h2, if_neg (by omega)]
        have hgetj : ((f5V (fitDen M) (fun c => if c < j + 1 then fitPart M R c else 0)).drop (0 + 1 + (j : Int).toNat * 1))[0]? = some (I (fitPart M R j)) := by
          rw [f5V_get hj4, if_pos (by omega)]
        (repeat' (first | (with_reducible first | intro hg | refine mv (by constructor) ?_) | ((with_reducible first | refine zR ?_ ?_ | refine zW mixed ?_ ?_); exact kr) | ((with_reducible apply zK); exact rfl; exact tf) | ((with_reducible apply zCD); exact rfl) | ((with_reducible apply zCN); exact rfl) | ((with_reducible apply zC); exact rfl) | ((with_reducible refine zX ?_ ?_); exact rfl) | ((with_reducible refine zE (And.intro ?_ ?_)); exact kr) | (with_reducible refine zE ?_) | ((with_reducible apply zP); (first | exact o_load1 rfl rfl hgetj | exact dp | exact oc rfl (hdet) | exact oc rfl (hdiv))) | ((with_reducible apply zN); exact dn) | ((with_reducible apply zA); exact da) | ((with_reducible apply zS); (first | exact o_store rfl rfl rfl rfl (by rfl) (by show _ ≤ 5; omega) (f5V_set (g := fun c => if c < j + 1 then fitPart M R c else 0) hj4 _ hset) | exact ds)) | ((with_reducible apply zY); exact rfl; exact rfl; exact tf) | ((with_reducible apply zG); exact rfl; exact rfl; exact tf) | ((with_reducible apply zU); exact rfl; exact rfl) | ((with_reducible apply zD); exact rfl; exact rfl) | ((with_reducible apply zB); exact rfl; exact rfl)))
        refine ⟨j + 1, by omega, by omega, (And.intro rfl (And.intro rfl (And.intro rfl (And.intro rfl (And.intro rfl (And.intro rfl (And.intro rfl trivial))))))), (And.intro rfl (And.intro rfl (And.intro rfl (And.intro rfl trivial))))⟩
    · have hj5 : j = 4 := by omega
      subst hj5
      have hg0 : 0 < fitG M R 4 := fitG_pos (r := R) hz 3
      have hgb := hE.g 4 (by omega)
      have hq0 : ((fitDen M).tdiv (fitG M R 4)).natAbs ≤ 849346560000000000 := tdiv_bnd _ _ _ hdb
      have hpc : f5V (fitDen M) (fun c => if c < 4 then fitPart M R c else 0) = f5V (fitDen M) (fitPart M R) := f5V_congr fun r hr => if_pos hr
      (repeat' (first | (with_reducible first | intro hg | refine mv (by constructor) ?_) | ((with_reducible first | refine zR ?_ ?_ | refine zW mixed ?_ ?_); exact kr) | ((with_reducible apply zK); exact rfl; exact tf) | ((with_reducible apply zCD); exact rfl) | ((with_reducible apply zCN); exact rfl) | ((with_reducible apply zC); exact rfl) | ((with_reducible refine zX ?_ ?_); exact rfl) | ((with_reducible refine zE (And.intro ?_ ?_)); exact kr) | (with_reducible refine zE ?_) | ((with_reducible apply zP); exact dp) | ((with_reducible apply zN); exact dn) | ((with_reducible apply zA); exact da) | ((with_reducible apply zS); exact ds) | ((with_reducible apply zY); exact rfl; exact rfl; exact tf) | ((with_reducible apply zG); exact rfl; exact rfl; exact tf) | ((with_reducible apply zU); exact rfl; exact rfl) | ((with_reducible apply zD); exact rfl; exact rfl) | ((with_reducible apply zB); exact rfl; exact rfl)))
      refine awp_loopL (α := Nat) (fun j => [(4, .ptr 4 0), (5, .d (I 0)), (10, .ptr 10 0), (11, .d (I (fitG M R 4))), (74, .d (I j))])
        (fun j => [(4, ⟨34, [I 0, I 0, I 0, I 0, I 0]⟩), (10, ⟨34, f5V (fitD M R) (fun c => if c < j then fitQ M R c else fitPart M R c)⟩)]) (fun j => j ≤ 4 ∧ ∀ c, c < j → fitOk M R c = true) (fun j => 4 - j) 0 ⟨Nat.zero_le _, fun c hc => absurd hc (Nat.not_lt_zero c)⟩ (And.intro rfl (And.intro rfl (And.intro rfl (And.intro rfl (And.intro rfl trivial))))) (And.intro rfl (And.intro rfl trivial)) fun j ⟨hj, hall⟩ => ?_
      by_cases hj4 : j < 4
      · have hqb : ((fitPart M R j).tdiv (fitG M R 4)).natAbs ≤ 849346560000000000 := tdiv_bnd _ _ _ (hE.part j hj4)
        have hset : ∀ i, i < 4 → (fun c => if c < j + 1 then fitQ M R c else fitPart M R c) i = if i = j then (fitPart M R j).tdiv (fitG M R 4) else (fun c => if c < j then fitQ M R c else fitPart M R c) i := fun i _ => by
          show (if i < j + 1 then fitQ M R i else fitPart M R i) = if i = j then fitQ M R j else if i < j then fitQ M R i else fitPart M R i
          by_cases h : i = j
          · subst h; rw [if_pos rfl, if_pos (by omega)]
          · rw [if_neg h]; by_cases h2 : i < j
            · rw [if_pos h2, if_pos (by omega)]
            · rw [if_neg h2, if_neg (by omega)]
        have hget1 : ((f5V (fitD M R) (fun c => if c < j then fitQ M R c else fitPart M R c)).drop (0 + 1 + (j : Int).toNat * 1))[0]? = some (I (fitPart M R j)) := by
          rw [f5V_get hj4, if_neg (by omega)]
        have hget2 : ((f5V (fitD M R) (fun c => if c < j + 1 then fitQ M R c else fitPart M R c)).drop (0 + 1 + (j : Int).toNat * 1))[0]? = some (I (fitQ M R j)) := by
          rw [f5V_get hj4, if_pos (by omega)]
        have hsz : AC Try.prog 29 [I (fitQ M R j), I 1000000000000000] (B (fitOk M R j)) := isSized_A _ _ ⟨by omega, by omega⟩
        cases hok : fitOk M R j
        · rw [h8 hz (fitAll_not hj4 hok)]
          rw [hok] at hsz
          (repeat' (first | (with_reducible first | intro hg | refine mv (by constructor) ?_) | ((with_reducible first | refine zR ?_ ?_ | refine zW mixed ?_ ?_); exact kr) | ((with_reducible apply zK); exact rfl; exact tf) | ((with_reducible apply zCD); exact rfl) | ((with_reducible apply zCN); exact rfl) | ((with_reducible apply zC); exact rfl) | ((with_reducible refine zX ?_ ?_); exact rfl) | ((with_reducible refine zE (And.intro ?_ ?_)); exact kr) | (with_reducible refine zE ?_) | ((with_reducible apply zP); (first | exact o_load1 rfl rfl hget1 | exact o_load1 rfl rfl hget2 | exact dp | exact oc rfl (hsz))) | ((with_reducible apply zN); exact dn) | ((with_reducible apply zA); exact da) | ((with_reducible apply zS); (first | exact o_store rfl rfl rfl rfl (by rfl) (by show _ ≤ 5; omega) (f5V_set (g := fun c => if c < j + 1 then fitQ M R c else fitPart M R c) hj4 _ hset) | exact ds)) | ((with_reducible apply zY); exact rfl; exact rfl; exact tf) | ((with_reducible apply zG); exact rfl; exact rfl; exact tf) | ((with_reducible apply zU); exact rfl; exact rfl) | ((with_reducible apply zD); exact rfl; exact rfl) | ((with_reducible apply zB); exact rfl; exact rfl)))
          ((with_reducible first | apply q_retR | apply q_retN); exact rl)
          rfl
        · rw [hok] at hsz
          (repeat' (first | (with_reducible first | intro hg | refine mv (by constructor) ?_) | ((with_reducible first | refine zR ?_ ?_ | refine zW mixed ?_ ?_); exact kr) | ((with_reducible apply zK); exact rfl; exact tf) | ((with_reducible apply zCD); exact rfl) | ((with_reducible apply zCN); exact rfl) | ((with_reducible apply zC); exact rfl) | ((with_reducible refine zX ?_ ?_); exact rfl) | ((with_reducible refine zE (And.intro ?_ ?_)); exact kr) | (with_reducible refine zE ?_) | ((with_reducible apply zP); (first | exact o_load1 rfl rfl hget1 | exact o_load1 rfl rfl hget2 | exact dp | exact oc rfl (hsz))) | ((with_reducible apply zN); exact dn) | ((with_reducible apply zA); exact da) | ((with_reducible apply zS); (first | exact o_store rfl rfl rfl rfl (by rfl) (by show _ ≤ 5; omega) (f5V_set (g := fun c => if c < j + 1 then fitQ M R c else fitPart M R c) hj4 _ hset) | exact ds)) | ((with_reducible apply zY); exact rfl; exact rfl; exact tf) | ((with_reducible apply zG); exact rfl; exact rfl; exact tf) | ((with_reducible apply zU); exact rfl; exact rfl) | ((with_reducible apply zD); exact rfl; exact rfl) | ((with_reducible apply zB); exact rfl; exact rfl)))
          refine ⟨j + 1, ⟨by omega, fun c hc => ?_⟩, by omega, (And.intro rfl (And.intro rfl (And.intro rfl (And.intro rfl (And.intro rfl trivial))))), (And.intro rfl (And.intro rfl trivial))⟩
          by_cases h : c = j
          · rw [h]; exact hok
          · exact hall c (by omega)
      · have hj5 : j = 4 := by omega
        subst hj5
        rw [h0 hz (fitAll_of fun c hc => hall c hc)]
        (repeat' (first | (with_reducible first | intro hg | refine mv (by constructor) ?_) | ((with_reducible first | refine zR ?_ ?_ | refine zW mixed ?_ ?_); exact kr) | ((with_reducible apply zK); exact rfl; exact tf) | ((with_reducible apply zCD); exact rfl) | ((with_reducible apply zCN); exact rfl) | ((with_reducible apply zC); exact rfl) | ((with_reducible refine zX ?_ ?_); exact rfl) | ((with_reducible refine zE (And.intro ?_ ?_)); exact kr) | (with_reducible refine zE ?_) | ((with_reducible apply zP); exact dp) | ((with_reducible apply zN); exact dn) | ((with_reducible apply zA); exact da) | ((with_reducible apply zS); exact ds) | ((with_reducible apply zY); exact rfl; exact rfl; exact tf) | ((with_reducible apply zG); exact rfl; exact rfl; exact tf) | ((with_reducible apply zU); exact rfl; exact rfl) | ((with_reducible apply zD); exact rfl; exact rfl) | ((with_reducible apply zB); exact rfl; exact rfl)))
        ((with_reducible first | apply q_retR | apply q_retN); exact rl)
        rfl

end Go.Proofs.Ytgjhikjnlcbmkaa

/- Marks: plain definitions and laws. Nothing of the program. -/
namespace Go.Proofs.Ytgjhikjnlcbmkaa
open Go.RowKit

abbrev marksV (xs : List Int) (t : Int) : DV := .agg [isl xs, I t]
def markE (last n : Int) : Int := fst0 [unl (inR n 0 1000000) 2, unl (decide (last < n)) 9]
def mk0 (xs : List Int) (t : Int) : Int := fst0 [unl (decide (2 ≤ (xs.length : Int))) 10, unl (decide ((xs.length : Int) ≤ 30)) 8, unl (inR t 0 10000) 2]
def scanM : Int → List Int → Int → Int × Int
  | _, [], _ => (0, 0)
  | last, n :: l, i => if markE last n = 0 then scanM n l (i + 1) else (i, markE last n)
def chkM (xs : List Int) (t : Int) : Int × Int := if mk0 xs t = 0 then scanM (-1) xs 0 else (0, mk0 xs t)
def lastM (xs : List Int) (k : Nat) : Int := if k = 0 then -1 else nth xs (k - 1)
theorem unl_ok {b : Bool} {n : Int} (hn : n ≠ 0) (h : unl b n = 0) : b = true := by
  cases b
  · exact absurd h hn
  · rfl
structure MarksOk (xs : List Int) (t : Int) : Prop where
  len2 : 2 ≤ xs.length
  len30 : xs.length ≤ 30
  t0 : 0 ≤ t
  t1 : t ≤ 10000
  rng : ∀ n ∈ xs, 0 ≤ n ∧ n ≤ 1000000
  inc : ∀ i, i + 1 < xs.length → nth xs i < nth xs (i + 1)
theorem markE_ok {last n : Int} (h : markE last n = 0) : (0 ≤ n ∧ n ≤ 1000000) ∧ last < n := by
  obtain ⟨h1, h2⟩ := fst0_cons h
  exact ⟨inR_true.1 (unl_ok (by decide) h1), of_decide_eq_true (unl_ok (by decide) (fst0_cons h2).1)⟩
theorem scan_ok {last : Int} {xs : List Int} {i : Int} (h : (scanM last xs i).2 = 0) : (∀ n ∈ xs, 0 ≤ n ∧ n ≤ 1000000) ∧ (∀ j, j + 1 < xs.length → nth xs j < nth xs (j + 1)) ∧ (xs ≠ [] → last < nth xs 0) := by
  induction xs generalizing last i with
  | nil => simp
  | cons n l ih =>
    rw [scanM] at h
    by_cases he : markE last n = 0
    · rw [if_pos he] at h
      obtain ⟨h1, h2⟩ := markE_ok he
      obtain ⟨i1, i2, i3⟩ := ih h
      refine ⟨fun x hx => ?_, fun j hj => ?_, fun _ => h2⟩
      · rcases List.mem_cons.1 hx with rfl | hx
        · exact h1
        · exact i1 x hx
      · cases j with
        | zero =>
          have hl : l ≠ [] := by rintro rfl; simp at hj
          exact i3 hl
        | succ j => exact i2 j (by simpa using hj)
    · rw [if_neg he] at h
      exact absurd h he
theorem chk_ok {xs : List Int} {t : Int} (h : (chkM xs t).2 = 0) : MarksOk xs t := by
  unfold chkM at h
  by_cases h0 : mk0 xs t = 0
  · rw [if_pos h0] at h
    obtain ⟨h1, h2⟩ := fst0_cons h0
    obtain ⟨h2, h3⟩ := fst0_cons h2
    have h1 := of_decide_eq_true (unl_ok (by decide) h1)
    have h2 := of_decide_eq_true (unl_ok (by decide) h2)
    have h3 := inR_true.1 (unl_ok (by decide) (fst0_cons h3).1)
    obtain ⟨i1, i2, _⟩ := scan_ok h
    exact ⟨by omega, by omega, h3.1, h3.2, i1, i2⟩
  · rw [if_neg h0] at h
    exact absurd h h0
theorem scan_step {xs : List Int} {k : Nat} (hk : k < xs.length) : scanM (lastM xs k) (xs.drop k) k = if markE (lastM xs k) (nth xs k) = 0 then scanM (lastM xs (k + 1)) (xs.drop (k + 1)) (k + 1 : Nat) else ((k : Int), markE (lastM xs k) (nth xs k)) := by
  rw [drop_getD hk, scanM]
  have : lastM xs (k + 1) = nth xs k := by unfold lastM; simp
  rw [this]; rfl

def rndErr (t r : Int) : Int := fst0 [unl (inR r 1 10000) 2, unl (decide (4 * t < r)) 22]
theorem rnd_ok {t r : Int} (h : rndErr t r = 0) : (1 ≤ r ∧ r ≤ 10000) ∧ 4 * t < r := by
  obtain ⟨h1, h2⟩ := fst0_cons h
  exact ⟨inR_true.1 (unl_ok (by decide) h1), of_decide_eq_true (unl_ok (by decide) (fst0_cons h2).1)⟩

def phStep (xs : List Int) (t r a : Int) (p : Int × Int) (i : Int) : Int × Int :=
  let d := if 2 * t < (nth xs i.toNat - a) % r then (nth xs i.toNat - a) % r - r else (nth xs i.toNat - a) % r
  (max p.1 (d - t), min p.2 (d + t))
def phAcc (xs : List Int) (t r a : Int) (is : List Int) (k : Nat) : Int × Int := (is.take k).foldl (phStep xs t r a) (-t, t)
theorem phAcc_succ {xs : List Int} {t r a : Int} {is : List Int} {k : Nat} (hk : k < is.length) : phAcc xs t r a is (k + 1) = phStep xs t r a (phAcc xs t r a is k) (nth is k) := by
  unfold phAcc; rw [take_getD hk, List.foldl_append]; rfl
theorem phAcc_bnd {xs : List Int} {t r a : Int} (is : List Int) (k : Nat) (ht : 0 ≤ t) (ht2 : t ≤ 10000) (hr : 0 < r) (hr2 : r ≤ 10000) : -t ≤ (phAcc xs t r a is k).1 ∧ (phAcc xs t r a is k).1 ≤ t ∧ -20000 ≤ (phAcc xs t r a is k).2 ∧ (phAcc xs t r a is k).2 ≤ t := by
  unfold phAcc
  generalize is.take k = l
  have key : ∀ (l : List Int) (p : Int × Int), (-t ≤ p.1 ∧ p.1 ≤ t ∧ -20000 ≤ p.2 ∧ p.2 ≤ t) → (-t ≤ (l.foldl (phStep xs t r a) p).1 ∧ (l.foldl (phStep xs t r a) p).1 ≤ t ∧ -20000 ≤ (l.foldl (phStep xs t r a) p).2 ∧ (l.foldl (phStep xs t r a) p).2 ≤ t) := by
    intro l
    induction l with
    | nil => intro p h; exact h
    | cons i l ih =>
      intro p ⟨h1, h2, h3, h4⟩
      rw [List.foldl_cons]
      apply ih
      have b1 := Int.emod_nonneg (nth xs i.toNat - a) (show r ≠ 0 by omega)
      have b2 := Int.emod_lt_of_pos (nth xs i.toNat - a) hr
      unfold phStep
      simp only []
      split <;> omega
  exact key l _ ⟨by show -t ≤ -t; omega, by show -t ≤ t; omega, by show -20000 ≤ t; omega, by show t ≤ t; omega⟩
def phA (xs : List Int) (is : List Int) : Int := nth xs (nth is 0).toNat
def phEnd (xs : List Int) (t r : Int) (is : List Int) : Int × Int := phAcc xs t r (phA xs is) is is.length
def phLo (xs : List Int) (t r : Int) (is : List Int) : Int := (phA xs is + (phEnd xs t r is).1) % r
def phHi (xs : List Int) (t r : Int) (is : List Int) : Int := phLo xs t r is + (phEnd xs t r is).2 - (phEnd xs t r is).1
def phOk (xs : List Int) (t r : Int) (is : List Int) : Bool := decide ((phEnd xs t r is).1 ≤ (phEnd xs t r is).2)
def allM (xs : List Int) : List Int := lst (fun i => (i : Int)) xs.length

def misN (xs : List Int) (r ph : Int) : Int := nth xs 0 + (ph - nth xs 0) % r
def misFar (xs : List Int) (t n : Int) : Bool := !(xs.any fun a => inR (a - n) (-(2 * t)) (2 * t))
def misTo (xs : List Int) (t r ph : Int) (k : Nat) : List Int := (lst (fun i => misN xs r ph + i * r) k).filter (misFar xs t)
def misCnt (xs : List Int) (r ph : Int) : Nat := if misN xs r ph ≤ nth xs (xs.length - 1) then ((nth xs (xs.length - 1) - misN xs r ph) / r + 1).toNat else 0
def misL (xs : List Int) (t r ph : Int) : List Int := misTo xs t r ph (misCnt xs r ph)
theorem misTo_succ (xs : List Int) (t r ph : Int) (k : Nat) : misTo xs t r ph (k + 1) = misTo xs t r ph k ++ if misFar xs t (misN xs r ph + k * r) then [misN xs r ph + k * r] else [] := by
  unfold misTo; rw [lst_succ, List.filter_append]
  congr 1
  simp only [List.filter_cons, List.filter_nil]
theorem misCnt_iff {xs : List Int} {r ph : Int} (hr : 0 < r) (k : Nat) : misN xs r ph + k * r ≤ nth xs (xs.length - 1) ↔ k < misCnt xs r ph := by
  unfold misCnt
  generalize misN xs r ph = a
  generalize nth xs (xs.length - 1) = e
  by_cases h : a ≤ e
  · rw [if_pos h]
    have h1 : 0 ≤ (e - a) / r := Int.ediv_nonneg (by omega) (by omega)
    have h2 : (k : Int) * r ≤ e - a ↔ (k : Int) ≤ (e - a) / r := (Int.le_ediv_iff_mul_le hr).symm
    omega
  · rw [if_neg h]
    have h1 : 0 ≤ (k : Int) * r := Int.mul_nonneg (by omega) (by omega)
    omega

end Go.Proofs.Ytgjhikjnlcbmkaa

/- Walks: marks (package roll). -/
namespace Go.Proofs.Ytgjhikjnlcbmkaa
open Go.RowKit
set_option maxRecDepth 20000
set_option maxHeartbeats 4000000

theorem remainder_A (n b : Int) (h1 : n.natAbs ≤ 1000000000) (hb : 0 < b) (hb2 : b ≤ 1000000) : AC Try.prog 86 [I n, I b] (I (n % b)) := by
  have h2 := Int.tmod_lt_of_pos n hb
  have h3 : -b < n.tmod b := by have := Int.lt_tmod_of_pos n hb; omega
  have key : (n.tmod b + b) % b = n % b := by
    rw [Int.add_emod_right]
    have := Int.mul_tdiv_add_tmod n b
    conv => rhs; rw [← this]
    rw [Int.add_comm, Int.add_mul_emod_self_left]
  by_cases h0 : 0 ≤ n
  · have h4 := Int.emod_nonneg n (by omega : b ≠ 0)
    have h5 := Int.emod_lt_of_pos n hb
    have e : n.tmod b = n % b := Int.tmod_eq_emod_of_nonneg h0
    rw [e] at key
    refine ac_body Try.func86 rfl (by kernel_rfl) fun w0 ok => ?_; show AWp _ (ctx0 w0 ok _) _ (ARet _ _ _) (entry _)
    (repeat' (first | (with_reducible first | intro hg | refine mv (by constructor) ?_) | ((with_reducible first | refine zR ?_ ?_ | refine zW mixed ?_ ?_); exact kr) | ((with_reducible apply zK); exact rfl; exact tf) | ((with_reducible apply zCD); exact rfl) | ((with_reducible apply zCN); exact rfl) | ((with_reducible apply zC); exact rfl) | ((with_reducible refine zX ?_ ?_); exact rfl) | ((with_reducible refine zE (And.intro ?_ ?_)); exact kr) | (with_reducible refine zE ?_) | ((with_reducible apply zP); exact dp) | ((with_reducible apply zN); exact dn) | ((with_reducible apply zA); exact da) | ((with_reducible apply zS); exact ds) | ((with_reducible apply zY); exact rfl; exact rfl; exact tf) | ((with_reducible apply zG); exact rfl; exact rfl; exact tf) | ((with_reducible apply zU); exact rfl; exact rfl) | ((with_reducible apply zD); exact rfl; exact rfl) | ((with_reducible apply zB); exact rfl; exact rfl)))
    ((with_reducible first | apply q_retR | apply q_retN); exact rl)
    exact rt_int key.symm
  · refine ac_body Try.func86 rfl (by kernel_rfl) fun w0 ok => ?_; show AWp _ (ctx0 w0 ok _) _ (ARet _ _ _) (entry _)
    (repeat' (first | (with_reducible first | intro hg | refine mv (by constructor) ?_) | ((with_reducible first | refine zR ?_ ?_ | refine zW mixed ?_ ?_); exact kr) | ((with_reducible apply zK); exact rfl; exact tf) | ((with_reducible apply zCD); exact rfl) | ((with_reducible apply zCN); exact rfl) | ((with_reducible apply zC); exact rfl) | ((with_reducible refine zX ?_ ?_); exact rfl) | ((with_reducible refine zE (And.intro ?_ ?_)); exact kr) | (with_reducible refine zE ?_) | ((with_reducible apply zP); exact dp) | ((with_reducible apply zN); exact dn) | ((with_reducible apply zA); exact da) | ((with_reducible apply zS); exact ds) | ((with_reducible apply zY); exact rfl; exact rfl; exact tf) | ((with_reducible apply zG); exact rfl; exact rfl; exact tf) | ((with_reducible apply zU); exact rfl; exact rfl) | ((with_reducible apply zD); exact rfl; exact rfl) | ((with_reducible apply zB); exact rfl; exact rfl)))
    ((with_reducible first | apply q_retR | apply q_retN); exact rl)
    exact rt_int key.symm

/-! Function values with captures. -/
theorem indexFuncC_A (K : Nat) (he : Enters Try.prog K) (caps : List DV) (p : Int → Bool) (xs : List Int) (hm : xs.length ≤ 140737488355328) (hp : ∀ x ∈ xs, AC Try.prog K ([I x] ++ caps) (B (p x))) : AC Try.prog 47 [isl xs, .fn (.func K) [] caps] (I (idxF p xs 0)) := by
  refine ac_body Try.func47 rfl (by kernel_rfl) fun w0 ok => ?_; show AWp _ (ctx0 w0 ok _) _ (ARet _ _ _) (entry _)
  (repeat' (first | (with_reducible first | intro hg | refine mv (by constructor) ?_) | ((with_reducible first | refine zR ?_ ?_ | refine zW mixed ?_ ?_); exact kr) | ((with_reducible apply zK); exact rfl; exact tf) | ((with_reducible apply zCD); exact rfl) | ((with_reducible apply zCN); exact rfl) | ((with_reducible apply zC); exact rfl) | ((with_reducible refine zX ?_ ?_); exact rfl) | ((with_reducible refine zE (And.intro ?_ ?_)); exact kr) | (with_reducible refine zE ?_) | ((with_reducible apply zP); exact dp) | ((with_reducible apply zN); exact dn) | ((with_reducible apply zA); exact da) | ((with_reducible apply zS); exact ds) | ((with_reducible apply zY); exact rfl; exact rfl; exact tf) | ((with_reducible apply zG); exact rfl; exact rfl; exact tf) | ((with_reducible apply zU); exact rfl; exact rfl) | ((with_reducible apply zD); exact rfl; exact rfl) | ((with_reducible apply zB); exact rfl; exact rfl)))
  refine awp_loopL (α := Nat) (fun k => [(0, .d (isl xs)), (1, .d (.fn (.func K) [] caps)), (7, .d (I xs.length)), (8, .d (I k))]) (fun _ => []) (fun k => k ≤ xs.length ∧ idxF p xs 0 = idxF p (xs.drop k) k) (fun k => xs.length - k) 0 ⟨Nat.zero_le _, rfl⟩ (And.intro rfl (And.intro rfl (And.intro rfl (And.intro rfl trivial)))) trivial fun k ⟨hk, hd⟩ => ?_
  by_cases hlt : k < xs.length
  · have hs : idxF p (xs.drop k) k = bif p (nth xs k) then (k : Int) else idxF p (xs.drop (k + 1)) (k + 1) := by rw [drop_getD hlt]; rfl
    have hpk := hp (nth xs k) (by unfold nth; rw [List.getD_eq_getElem?_getD, List.getElem?_eq_getElem hlt]; exact List.getElem_mem hlt)
    cases hq : p (nth xs k)
    all_goals
      rw [hq] at hpk
      (repeat' (first | (with_reducible first | intro hg | refine mv (by constructor) ?_) | ((with_reducible first | refine zR ?_ ?_ | refine zW mixed ?_ ?_); exact kr) | ((with_reducible apply zK); exact rfl; exact tf) | ((with_reducible apply zCD); exact rfl) | ((with_reducible apply zCN); exact rfl) | ((with_reducible apply zC); exact rfl) | ((with_reducible refine zX ?_ ?_); exact rfl) | ((with_reducible refine zE (And.intro ?_ ?_)); exact kr) | (with_reducible refine zE ?_) | ((with_reducible apply zP); (first | exact o_callF he (.fn rfl) rfl hpk (.inl rfl) | exact dp)) | ((with_reducible apply zN); exact dn) | ((with_reducible apply zA); exact da) | ((with_reducible apply zS); exact ds) | ((with_reducible apply zY); exact rfl; exact rfl; exact tf) | ((with_reducible apply zG); exact rfl; exact rfl; exact tf) | ((with_reducible apply zU); exact rfl; exact rfl) | ((with_reducible apply zD); exact rfl; exact rfl) | ((with_reducible apply zB); exact rfl; exact rfl)))
    · exact ⟨k + 1, ⟨hlt, by rw [hd, hs, hq]; rfl⟩, by omega, (And.intro rfl (And.intro rfl (And.intro rfl (And.intro rfl trivial)))), trivial⟩
    · ((with_reducible first | apply q_retR | apply q_retN); exact rl)
      exact rt_int (by rw [hd, hs, hq]; rfl)
  · (repeat' (first | (with_reducible first | intro hg | refine mv (by constructor) ?_) | ((with_reducible first | refine zR ?_ ?_ | refine zW mixed ?_ ?_); exact kr) | ((with_reducible apply zK); exact rfl; exact tf) | ((with_reducible apply zCD); exact rfl) | ((with_reducible apply zCN); exact rfl) | ((with_reducible apply zC); exact rfl) | ((with_reducible refine zX ?_ ?_); exact rfl) | ((with_reducible refine zE (And.intro ?_ ?_)); exact kr) | (with_reducible refine zE ?_) | ((with_reducible apply zP); exact dp) | ((with_reducible apply zN); exact dn) | ((with_reducible apply zA); exact da) | ((with_reducible apply zS); exact ds) | ((with_reducible apply zY); exact rfl; exact rfl; exact tf) | ((with_reducible apply zG); exact rfl; exact rfl; exact tf) | ((with_reducible apply zU); exact rfl; exact rfl) | ((with_reducible apply zD); exact rfl; exact rfl) | ((with_reducible apply zB); exact rfl; exact rfl)))
    ((with_reducible first | apply q_retR | apply q_retN); exact rl)
    exact rt_int (by rw [hd, List.drop_of_length_le (by omega)]; rfl)
theorem containsFuncC_A (K : Nat) (he : Enters Try.prog K) (caps : List DV) (p : Int → Bool) (xs : List Int) (hm : xs.length ≤ 140737488355328) (hp : ∀ x ∈ xs, AC Try.prog K ([I x] ++ caps) (B (p x))) : AC Try.prog 87 [isl xs, .fn (.func K) [] caps] (B (xs.any p)) := by
  refine ac_body Try.func87 rfl (by kernel_rfl) fun w0 ok => ?_; show AWp _ (ctx0 w0 ok _) _ (ARet _ _ _) (entry _)
  (repeat' (first | (with_reducible first | intro hg | refine mv (by constructor) ?_) | ((with_reducible first | refine zR ?_ ?_ | refine zW mixed ?_ ?_); exact kr) | ((with_reducible apply zK); exact rfl; exact tf) | ((with_reducible apply zCD); exact rfl) | ((with_reducible apply zCN); exact rfl) | ((with_reducible apply zC); exact rfl) | ((with_reducible refine zX ?_ ?_); exact rfl) | ((with_reducible refine zE (And.intro ?_ ?_)); exact kr) | (with_reducible refine zE ?_) | ((with_reducible apply zP); (first | exact dp | exact oc rfl (indexFuncC_A K he caps p xs hm hp))) | ((with_reducible apply zN); exact dn) | ((with_reducible apply zA); exact da) | ((with_reducible apply zS); exact ds) | ((with_reducible apply zY); exact rfl; exact rfl; exact tf) | ((with_reducible apply zG); exact rfl; exact rfl; exact tf) | ((with_reducible apply zU); exact rfl; exact rfl) | ((with_reducible apply zD); exact rfl; exact rfl) | ((with_reducible apply zB); exact rfl; exact rfl)))
  ((with_reducible first | apply q_retR | apply q_retN); exact rl)
  exact rt_bool (by rw [idxF_neg])

theorem checkMarks_A (xs : List Int) (t : Int) (hm : xs.length ≤ 140737488355328) : AC Try.prog 85 [marksV xs t] (.tuple [I (chkM xs t).1, I (chkM xs t).2]) := by
  by_cases h0 : mk0 xs t = 0
  · have h0' : fst0 [unl (decide (2 ≤ (xs.length : Int))) 10, unl (decide ((xs.length : Int) ≤ 30)) 8, unl (inR t 0 10000) 2] = 0 := h0
    have hc : chkM xs t = scanM (-1) xs 0 := by unfold chkM; rw [if_pos h0]
    refine ac_body Try.func85 rfl (by kernel_rfl) fun w0 ok => ?_; show AWp _ (ctx0 w0 ok _) _ (ARet _ _ _) (entry _)
    (repeat' (first | (with_reducible first | intro hg | refine mv (by constructor) ?_) | ((with_reducible first | refine zR ?_ ?_ | refine zW mixed ?_ ?_); exact kr) | ((with_reducible apply zK); exact rfl; exact tf) | ((with_reducible apply zCD); exact rfl) | ((with_reducible apply zCN); exact rfl) | ((with_reducible apply zC); exact rfl) | ((with_reducible refine zX ?_ ?_); exact rfl) | ((with_reducible refine zE (And.intro ?_ ?_)); exact kr) | (with_reducible refine zE ?_) | ((with_reducible apply zP); (first | exact dp | exact oc rfl (within_A _ _ _) | exact oc rfl (unless_A _ _) | exact oc rfl (first3_A _ _ _))) | ((with_reducible apply zN); exact dn) | ((with_reducible apply zA); exact da) | ((with_reducible apply zS); exact ds) | ((with_reducible apply zY); exact rfl; exact rfl; exact tf) | ((with_reducible apply zG); exact rfl; exact rfl; exact tf) | ((with_reducible apply zU); exact rfl; exact rfl) | ((with_reducible apply zD); exact rfl; exact rfl) | ((with_reducible apply zB); exact rfl; exact rfl)))
    refine awp_loopL (α := Nat) (fun k => [(2, .d (I 0)), (3, .d (I 0)), (5, .d (I (lastM xs k))), (29, .d (isl xs)), (30, .d (I xs.length)), (31, .d (I k))]) (fun _ => []) (fun k => k ≤ xs.length ∧ chkM xs t = scanM (lastM xs k) (xs.drop k) k) (fun k => xs.length - k) 0 ⟨Nat.zero_le _, hc⟩ (And.intro rfl (And.intro rfl (And.intro rfl (And.intro rfl (And.intro rfl (And.intro rfl trivial)))))) trivial fun k ⟨hk, hd⟩ => ?_
    by_cases hlt : k < xs.length
    · rw [scan_step hlt] at hd
      have hl5 : AV.d (I (nth xs k)) = AV.d (I (lastM xs (k + 1))) := by unfold lastM; simp
      by_cases he : markE (lastM xs k) (nth xs k) = 0
      · rw [if_pos he] at hd
        have he' : fst0 [unl (inR (nth xs k) 0 1000000) 2, unl (decide (lastM xs k < nth xs k)) 9] = 0 := he
        (repeat' (first | (with_reducible first | intro hg | refine mv (by constructor) ?_) | ((with_reducible first | refine zR ?_ ?_ | refine zW mixed ?_ ?_); exact kr) | ((with_reducible apply zK); exact rfl; exact tf) | ((with_reducible apply zCD); exact rfl) | ((with_reducible apply zCN); exact rfl) | ((with_reducible apply zC); exact rfl) | ((with_reducible refine zX ?_ ?_); exact rfl) | ((with_reducible refine zE (And.intro ?_ ?_)); exact kr) | (with_reducible refine zE ?_) | ((with_reducible apply zP); (first | exact dp | exact oc rfl (within_A _ _ _) | exact oc rfl (unless_A _ _) | exact oc rfl (first2_A _ _))) | ((with_reducible apply zN); exact dn) | ((with_reducible apply zA); exact da) | ((with_reducible apply zS); exact ds) | ((with_reducible apply zY); exact rfl; exact rfl; exact tf) | ((with_reducible apply zG); exact rfl; exact rfl; exact tf) | ((with_reducible apply zU); exact rfl; exact rfl) | ((with_reducible apply zD); exact rfl; exact rfl) | ((with_reducible apply zB); exact rfl; exact rfl)))
        exact ⟨k + 1, ⟨hlt, hd⟩, by omega, (And.intro rfl (And.intro rfl (And.intro (hl5) (And.intro (rfl) (And.intro (rfl) (And.intro (rfl) trivial)))))), trivial⟩
      · rw [if_neg he] at hd
        have he' : ¬ fst0 [unl (inR (nth xs k) 0 1000000) 2, unl (decide (lastM xs k < nth xs k)) 9] = 0 := he
        (repeat' (first | (with_reducible first | intro hg | refine mv (by constructor) ?_) | ((with_reducible first | refine zR ?_ ?_ | refine zW mixed ?_ ?_); exact kr) | ((with_reducible apply zK); exact rfl; exact tf) | ((with_reducible apply zCD); exact rfl) | ((with_reducible apply zCN); exact rfl) | ((with_reducible apply zC); exact rfl) | ((with_reducible refine zX ?_ ?_); exact rfl) | ((with_reducible refine zE (And.intro ?_ ?_)); exact kr) | (with_reducible refine zE ?_) | ((with_reducible apply zP); (first | exact dp | exact oc rfl (within_A _ _ _) | exact oc rfl (unless_A _ _) | exact oc rfl (first2_A _ _))) | ((with_reducible apply zN); exact dn) | ((with_reducible apply zA); exact da) | ((with_reducible apply zS); exact ds) | ((with_reducible apply zY); exact rfl; exact rfl; exact tf) | ((with_reducible apply zG); exact rfl; exact rfl; exact tf) | ((with_reducible apply zU); exact rfl; exact rfl) | ((with_reducible apply zD); exact rfl; exact rfl) | ((with_reducible apply zB); exact rfl; exact rfl)))
        ((with_reducible first | apply q_retR | apply q_retN); exact rl)
        rw [hd]; rfl
    · rw [List.drop_of_length_le (by omega)] at hd
      (repeat' (first | (with_reducible first | intro hg | refine mv (by constructor) ?_) | ((with_reducible first | refine zR ?_ ?_ | refine zW mixed ?_ ?_); exact kr) | ((with_reducible apply zK); exact rfl; exact tf) | ((with_reducible apply zCD); exact rfl) | ((with_reducible apply zCN); exact rfl) | ((with_reducible apply zC); exact rfl) | ((with_reducible refine zX ?_ ?_); exact rfl) | ((with_reducible refine zE (And.intro ?_ ?_)); exact kr) | (with_reducible refine zE ?_) | ((with_reducible apply zP); exact dp) | ((with_reducible apply zN); exact dn) | ((with_reducible apply zA); exact da) | ((with_reducible apply zS); exact ds) | ((with_reducible apply zY); exact rfl; exact rfl; exact tf) | ((with_reducible apply zG); exact rfl; exact rfl; exact tf) | ((with_reducible apply zU); exact rfl; exact rfl) | ((with_reducible apply zD); exact rfl; exact rfl) | ((with_reducible apply zB); exact rfl; exact rfl)))
      ((with_reducible first | apply q_retR | apply q_retN); exact rl)
      rw [hd]; rfl
  · have h0' : ¬ fst0 [unl (decide (2 ≤ (xs.length : Int))) 10, unl (decide ((xs.length : Int) ≤ 30)) 8, unl (inR t 0 10000) 2] = 0 := h0
    have hc : chkM xs t = (0, mk0 xs t) := by unfold chkM; rw [if_neg h0]
    refine ac_body Try.func85 rfl (by kernel_rfl) fun w0 ok => ?_; show AWp _ (ctx0 w0 ok _) _ (ARet _ _ _) (entry _)
    (repeat' (first | (with_reducible first | intro hg | refine mv (by constructor) ?_) | ((with_reducible first | refine zR ?_ ?_ | refine zW mixed ?_ ?_); exact kr) | ((with_reducible apply zK); exact rfl; exact tf) | ((with_reducible apply zCD); exact rfl) | ((with_reducible apply zCN); exact rfl) | ((with_reducible apply zC); exact rfl) | ((with_reducible refine zX ?_ ?_); exact rfl) | ((with_reducible refine zE (And.intro ?_ ?_)); exact kr) | (with_reducible refine zE ?_) | ((with_reducible apply zP); (first | exact dp | exact oc rfl (within_A _ _ _) | exact oc rfl (unless_A _ _) | exact oc rfl (first3_A _ _ _))) | ((with_reducible apply zN); exact dn) | ((with_reducible apply zA); exact da) | ((with_reducible apply zS); exact ds) | ((with_reducible apply zY); exact rfl; exact rfl; exact tf) | ((with_reducible apply zG); exact rfl; exact rfl; exact tf) | ((with_reducible apply zU); exact rfl; exact rfl) | ((with_reducible apply zD); exact rfl; exact rfl) | ((with_reducible apply zB); exact rfl; exact rfl)))
    ((with_reducible first | apply q_retR | apply q_retN); exact rl)
    rw [hc]; rfl
theorem marksErr_A (xs : List Int) (t : Int) (hm : xs.length ≤ 140737488355328) : AC Try.prog 58 [marksV xs t] (I (chkM xs t).2) := by
  refine ac_body Try.func58 rfl (by kernel_rfl) fun w0 ok => ?_; show AWp _ (ctx0 w0 ok _) _ (ARet _ _ _) (entry _)
  (repeat' (first | (with_reducible first | intro hg | refine mv (by constructor) ?_) | ((with_reducible first | refine zR ?_ ?_ | refine zW mixed ?_ ?_); exact kr) | ((with_reducible apply zK); exact rfl; exact tf) | ((with_reducible apply zCD); exact rfl) | ((with_reducible apply zCN); exact rfl) | ((with_reducible apply zC); exact rfl) | ((with_reducible refine zX ?_ ?_); exact rfl) | ((with_reducible refine zE (And.intro ?_ ?_)); exact kr) | (with_reducible refine zE ?_) | ((with_reducible apply zP); (first | exact dp | exact oc rfl (checkMarks_A _ _ hm))) | ((with_reducible apply zN); exact dn) | ((with_reducible apply zA); exact da) | ((with_reducible apply zS); exact ds) | ((with_reducible apply zY); exact rfl; exact rfl; exact tf) | ((with_reducible apply zG); exact rfl; exact rfl; exact tf) | ((with_reducible apply zU); exact rfl; exact rfl) | ((with_reducible apply zD); exact rfl; exact rfl) | ((with_reducible apply zB); exact rfl; exact rfl)))
  ((with_reducible first | apply q_retR | apply q_retN); exact rl)
  rfl
theorem roundErr_A (xs : List Int) (t r : Int) (ht : t.natAbs ≤ 1000000) : AC Try.prog 59 [marksV xs t, I r] (I (rndErr t r)) := by
  refine ac_body Try.func59 rfl (by kernel_rfl) fun w0 ok => ?_; show AWp _ (ctx0 w0 ok _) _ (ARet _ _ _) (entry _)
  (repeat' (first | (with_reducible first | intro hg | refine mv (by constructor) ?_) | ((with_reducible first | refine zR ?_ ?_ | refine zW mixed ?_ ?_); exact kr) | ((with_reducible apply zK); exact rfl; exact tf) | ((with_reducible apply zCD); exact rfl) | ((with_reducible apply zCN); exact rfl) | ((with_reducible apply zC); exact rfl) | ((with_reducible refine zX ?_ ?_); exact rfl) | ((with_reducible refine zE (And.intro ?_ ?_)); exact kr) | (with_reducible refine zE ?_) | ((with_reducible apply zP); (first | exact dp | exact oc rfl (within_A _ _ _) | exact oc rfl (unless_A _ _) | exact oc rfl (first2_A _ _))) | ((with_reducible apply zN); exact dn) | ((with_reducible apply zA); exact da) | ((with_reducible apply zS); exact ds) | ((with_reducible apply zY); exact rfl; exact rfl; exact tf) | ((with_reducible apply zG); exact rfl; exact rfl; exact tf) | ((with_reducible apply zU); exact rfl; exact rfl) | ((with_reducible apply zD); exact rfl; exact rfl) | ((with_reducible apply zB); exact rfl; exact rfl)))
  ((with_reducible first | apply q_retR | apply q_retN); exact rl)
  rfl
theorem every_A (xs : List Int) (t : Int) (hm : xs.length ≤ 1000000) : AC Try.prog 61 [marksV xs t] (isl (allM xs)) := by
  refine ac_body Try.func61 rfl (by kernel_rfl) fun w0 ok => ?_; show AWp _ (ctx0 w0 ok _) _ (ARet _ _ _) (entry _)
  (repeat' (first | (with_reducible first | intro hg | refine mv (by constructor) ?_) | ((with_reducible first | refine zR ?_ ?_ | refine zW mixed ?_ ?_); exact kr) | ((with_reducible apply zK); exact rfl; exact tf) | ((with_reducible apply zCD); exact rfl) | ((with_reducible apply zCN); exact rfl) | ((with_reducible apply zC); exact rfl) | ((with_reducible refine zX ?_ ?_); exact rfl) | ((with_reducible refine zE (And.intro ?_ ?_)); exact kr) | (with_reducible refine zE ?_) | ((with_reducible apply zP); exact dp) | ((with_reducible apply zN); exact dn) | ((with_reducible apply zA); exact da) | ((with_reducible apply zS); exact ds) | ((with_reducible apply zY); exact rfl; exact rfl; exact tf) | ((with_reducible apply zG); exact rfl; exact rfl; exact tf) | ((with_reducible apply zU); exact rfl; exact rfl) | ((with_reducible apply zD); exact rfl; exact rfl) | ((with_reducible apply zB); exact rfl; exact rfl)))
  refine awp_loopL (α := Nat) (fun k => [(3, ownS 14 k), (7, .d (I xs.length)), (8, .d (I k))])
    (fun k => ownM 14 3 (ivs (lst (fun i => (i : Int)) k)) k) (fun k => k ≤ xs.length) (fun k => xs.length - k) 0 (Nat.zero_le _) (And.intro rfl (And.intro rfl (And.intro rfl trivial))) trivial fun k hk => ?_
  by_cases hlt : k < xs.length
  · rcases k with _ | k
    · (repeat' (first | (with_reducible first | intro hg | refine mv (by constructor) ?_) | ((with_reducible first | refine zR ?_ ?_ | refine zW mixed ?_ ?_); exact kr) | ((with_reducible apply zK); exact rfl; exact tf) | ((with_reducible apply zCD); exact rfl) | ((with_reducible apply zCN); exact rfl) | ((with_reducible apply zC); exact rfl) | ((with_reducible refine zX ?_ ?_); exact rfl) | ((with_reducible refine zE (And.intro ?_ ?_)); exact kr) | (with_reducible refine zE ?_) | ((with_reducible apply zP); exact dp) | ((with_reducible apply zN); exact dn) | ((with_reducible apply zA); exact da) | ((with_reducible apply zS); exact ds) | ((with_reducible apply zY); exact rfl; exact rfl; exact tf) | ((with_reducible apply zG); exact rfl; exact rfl; exact tf) | ((with_reducible apply zU); exact rfl; exact rfl) | ((with_reducible apply zD); exact rfl; exact rfl) | ((with_reducible apply zB); exact rfl; exact rfl)))
      refine ⟨1, by omega, by omega, (And.intro rfl (And.intro rfl (And.intro rfl trivial))), (And.intro rfl trivial)⟩
    · (repeat' (first | (with_reducible first | intro hg | refine mv (by constructor) ?_) | ((with_reducible first | refine zR ?_ ?_ | refine zW mixed ?_ ?_); exact kr) | ((with_reducible apply zK); exact rfl; exact tf) | ((with_reducible apply zCD); exact rfl) | ((with_reducible apply zCN); exact rfl) | ((with_reducible apply zC); exact rfl) | ((with_reducible refine zX ?_ ?_); exact rfl) | ((with_reducible refine zE (And.intro ?_ ?_)); exact kr) | (with_reducible refine zE ?_) | ((with_reducible apply zP); exact dp) | ((with_reducible apply zN); exact dn) | ((with_reducible apply zA); exact da) | ((with_reducible apply zS); exact ds) | ((with_reducible apply zY); exact rfl; exact rfl; exact tf) | ((with_reducible apply zG); exact rfl; exact rfl; exact tf) | ((with_reducible apply zU); exact rfl; exact rfl) | ((with_reducible apply zD); exact rfl; exact rfl) | ((with_reducible apply zB); exact rfl; exact rfl)))
      refine ⟨k + 2, by omega, by omega, (And.intro rfl (And.intro rfl (And.intro rfl trivial))), (And.intro (blk_snoc _ _ _ rfl) trivial)⟩
  · have hk2 : k = xs.length := by omega
    subst hk2
    refine awp_own 3 14 (t := 3) (fun i => (i : Int)) rfl (fun j hj => by rw [hj]; rfl) ?_
    (repeat' (first | (with_reducible first | intro hg | refine mv (by constructor) ?_) | ((with_reducible first | refine zR ?_ ?_ | refine zW mixed ?_ ?_); exact kr) | ((with_reducible apply zK); exact rfl; exact tf) | ((with_reducible apply zCD); exact rfl) | ((with_reducible apply zCN); exact rfl) | ((with_reducible apply zC); exact rfl) | ((with_reducible refine zX ?_ ?_); exact rfl) | ((with_reducible refine zE (And.intro ?_ ?_)); exact kr) | (with_reducible refine zE ?_) | ((with_reducible apply zP); exact dp) | ((with_reducible apply zN); exact dn) | ((with_reducible apply zA); exact da) | ((with_reducible apply zS); exact ds) | ((with_reducible apply zY); exact rfl; exact rfl; exact tf) | ((with_reducible apply zG); exact rfl; exact rfl; exact tf) | ((with_reducible apply zU); exact rfl; exact rfl) | ((with_reducible apply zD); exact rfl; exact rfl) | ((with_reducible apply zB); exact rfl; exact rfl)))
    ((with_reducible first | apply q_retR | apply q_retN); exact rl)
    rfl

def IxOk (xs is : List Int) : Prop := 0 < is.length ∧ is.length ≤ 1000 ∧ ∀ i ∈ is, 0 ≤ i ∧ i < xs.length
theorem nth_mem {l : List Int} {k : Nat} (h : k < l.length) : nth l k ∈ l := by
  unfold nth; rw [List.getD_eq_getElem?_getD, List.getElem?_eq_getElem h]; exact List.getElem_mem h
theorem allM_len (xs : List Int) : (allM xs).length = xs.length := lst_length _ _
theorem allM_ok {xs : List Int} (h : 0 < xs.length) (h2 : xs.length ≤ 1000) : IxOk xs (allM xs) := by
  refine ⟨by rw [allM_len]; exact h, by rw [allM_len]; exact h2, fun i hi => ?_⟩
  obtain ⟨k, hk, rfl⟩ := List.mem_map.1 hi
  rw [List.mem_range] at hk
  omega
theorem phases_A (xs : List Int) (t r : Int) (is : List Int) (hix : IxOk xs is) (hx : ∀ n ∈ xs, 0 ≤ n ∧ n ≤ 1000000) (ht : 0 ≤ t) (ht2 : t ≤ 10000) (hr : 0 < r) (hr2 : r ≤ 10000) :
    AC Try.prog 60 [marksV xs t, I r, isl is] (.tuple [.agg [I (phLo xs t r is), I (phHi xs t r is)], B (phOk xs t r is)]) := by
  obtain ⟨i1, i2, i3⟩ := id hix
  have hi0 := i3 _ (nth_mem (l := is) (k := 0) i1)
  have ha := hx _ (nth_mem (l := xs) (k := (nth is 0).toNat) (by omega))
  have hb := phAcc_bnd (xs := xs) (a := phA xs is) is is.length ht ht2 hr hr2
  have hlo1 := Int.emod_nonneg (phA xs is + (phEnd xs t r is).1) (show r ≠ 0 by omega)
  have hlo2 := Int.emod_lt_of_pos (phA xs is + (phEnd xs t r is).1) hr
  have ha' : 0 ≤ phA xs is ∧ phA xs is ≤ 1000000 := ha
  have hb' : -t ≤ (phEnd xs t r is).1 ∧ (phEnd xs t r is).1 ≤ t ∧ -20000 ≤ (phEnd xs t r is).2 ∧ (phEnd xs t r is).2 ≤ t := hb
  have hlo3 : 0 ≤ (phA xs is + (phAcc xs t r (phA xs is) is is.length).1) % r ∧ (phA xs is + (phAcc xs t r (phA xs is) is is.length).1) % r < r := ⟨hlo1, hlo2⟩
  have hi0' : 0 ≤ nth is (0 : Int).toNat ∧ nth is (0 : Int).toNat < xs.length := hi0
  have ha2 : 0 ≤ nth xs (nth is (0 : Int).toNat).toNat ∧ nth xs (nth is (0 : Int).toNat).toNat ≤ 1000000 := ha
  have hac0 : phAcc xs t r (phA xs is) is 0 = (-t, t) := by unfold phAcc; rw [List.take_zero]; rfl
  refine ac_body Try.func60 rfl (by kernel_rfl) fun w0 ok => ?_; show AWp _ (ctx0 w0 ok _) _ (ARet _ _ _) (entry _)
  (repeat' (first | (with_reducible first | intro hg | refine mv (by constructor) ?_) | ((with_reducible first | refine zR ?_ ?_ | refine zW mixed ?_ ?_); exact kr) | ((with_reducible apply zK); exact rfl; exact tf) | ((with_reducible apply zCD); exact rfl) | ((with_reducible apply zCN); exact rfl) | ((with_reducible apply zC); exact rfl) | ((with_reducible refine zX ?_ ?_); exact rfl) | ((with_reducible refine zE (And.intro ?_ ?_)); exact kr) | (with_reducible refine zE ?_) | ((with_reducible apply zP); (first | exact o_indexI (j := 0) rfl rfl (by omega) (by omega) | exact dp)) | ((with_reducible apply zN); exact dn) | ((with_reducible apply zA); exact da) | ((with_reducible apply zS); exact ds) | ((with_reducible apply zY); exact rfl; exact rfl; exact tf) | ((with_reducible apply zG); exact rfl; exact rfl; exact tf) | ((with_reducible apply zU); exact rfl; exact rfl) | ((with_reducible apply zD); exact rfl; exact rfl) | ((with_reducible apply zB); exact rfl; exact rfl)))
  refine awp_loopL (α := Nat) (fun k => [(1, .d (I r)), (3, .ptr 3 0), (6, .ptr 6 0), (8, .d (I (phA xs is))), (9, .ptr 9 0), (27, .d (isl is)), (28, .d (I is.length)), (29, .d (I k))])
    (fun k => [(3, ⟨63, [isl xs, I t]⟩), (6, ⟨121, [I 0, I 0]⟩), (9, ⟨121, [I (phAcc xs t r (phA xs is) is k).1, I (phAcc xs t r (phA xs is) is k).2]⟩)]) (fun k => k ≤ is.length) (fun k => is.length - k) 0 (Nat.zero_le _) (And.intro rfl (And.intro rfl (And.intro rfl (And.intro rfl (And.intro rfl (And.intro rfl (And.intro rfl (And.intro rfl trivial)))))))) (And.intro rfl (And.intro rfl (And.intro (congrArg (fun p : Int × Int => some (Blk.mk 121 [I p.1, I p.2])) hac0.symm) trivial))) fun k hk => ?_
  by_cases hlt : k < is.length
  · have hik := i3 _ (nth_mem (l := is) (k := k) hlt)
    have hxk := hx _ (nth_mem (l := xs) (k := (nth is k).toNat) (by omega))
    have b1 := Int.emod_nonneg (nth xs (nth is k).toNat - phA xs is) (show r ≠ 0 by omega)
    have b2 := Int.emod_lt_of_pos (nth xs (nth is k).toNat - phA xs is) hr
    have hbk := phAcc_bnd (xs := xs) (a := phA xs is) is k ht ht2 hr hr2
    have hst := phAcc_succ (xs := xs) (t := t) (r := r) (a := phA xs is) hlt
    (repeat' (first | (with_reducible first | intro hg | refine mv (by constructor) ?_) | ((with_reducible first | refine zR ?_ ?_ | refine zW mixed ?_ ?_); exact kr) | ((with_reducible apply zK); exact rfl; exact tf) | ((with_reducible apply zCD); exact rfl) | ((with_reducible apply zCN); exact rfl) | ((with_reducible apply zC); exact rfl) | ((with_reducible refine zX ?_ ?_); exact rfl) | ((with_reducible refine zE (And.intro ?_ ?_)); exact kr) | (with_reducible refine zE ?_) | ((with_reducible apply zP); (first | exact dp | exact oc rfl (remainder_A _ _ (by omega) hr (by omega)))) | ((with_reducible apply zN); exact dn) | ((with_reducible apply zA); exact da) | ((with_reducible apply zS); exact ds) | ((with_reducible apply zY); exact rfl; exact rfl; exact tf) | ((with_reducible apply zG); exact rfl; exact rfl; exact tf) | ((with_reducible apply zU); exact rfl; exact rfl) | ((with_reducible apply zD); exact rfl; exact rfl) | ((with_reducible apply zB); exact rfl; exact rfl)))
    all_goals
      refine ⟨k + 1, by omega, by omega, (And.intro rfl (And.intro rfl (And.intro rfl (And.intro rfl (And.intro rfl (And.intro rfl (And.intro rfl (And.intro rfl trivial)))))))), (And.intro rfl (And.intro rfl (And.intro (congrArg some (congrArg (Blk.mk _) ?_)) trivial)))⟩
      rw [hst]
      unfold phStep
    · rw [if_pos hg]; rfl
    · rw [if_neg hg]; rfl
  · have hk2 : k = is.length := by omega
    subst hk2
    (repeat' (first | (with_reducible first | intro hg | refine mv (by constructor) ?_) | ((with_reducible first | refine zR ?_ ?_ | refine zW mixed ?_ ?_); exact kr) | ((with_reducible apply zK); exact rfl; exact tf) | ((with_reducible apply zCD); exact rfl) | ((with_reducible apply zCN); exact rfl) | ((with_reducible apply zC); exact rfl) | ((with_reducible refine zX ?_ ?_); exact rfl) | ((with_reducible refine zE (And.intro ?_ ?_)); exact kr) | (with_reducible refine zE ?_) | ((with_reducible apply zP); (first | exact dp | exact oc rfl (remainder_A _ _ (by omega) hr (by omega)))) | ((with_reducible apply zN); exact dn) | ((with_reducible apply zA); exact da) | ((with_reducible apply zS); exact ds) | ((with_reducible apply zY); exact rfl; exact rfl; exact tf) | ((with_reducible apply zG); exact rfl; exact rfl; exact tf) | ((with_reducible apply zU); exact rfl; exact rfl) | ((with_reducible apply zD); exact rfl; exact rfl) | ((with_reducible apply zB); exact rfl; exact rfl)))
    ((with_reducible first | apply q_retR | apply q_retN); exact rl)
    rfl

end Go.Proofs.Ytgjhikjnlcbmkaa
