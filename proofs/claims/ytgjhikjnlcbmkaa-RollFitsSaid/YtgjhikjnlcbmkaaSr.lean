/- Walk: the package's CheckFit. -/
import Derived.Test.YtgjhikjnlcbmkaaSp
set_option linter.unusedVariables false
set_option linter.unusedSimpArgs false
namespace Go.Proofs.Ytgjhikjnlcbmkaa
open Go.RowKit
set_option maxRecDepth 20000
set_option maxHeartbeats 16000000

theorem nz_A (n : Int) : AC Try.prog 48 [I n] (B (decide (n ≠ 0))) := by
  refine ac_body Try.func48 rfl (by kernel_rfl) fun w0 ok => ?_; show AWp _ (ctx0 w0 ok _) _ (ARet _ _ _) (entry _)
  (repeat' (first | (with_reducible first | intro hg | refine mv (by constructor) ?_) | ((with_reducible first | refine zR ?_ ?_ | refine zW mixed ?_ ?_); exact kr) | ((with_reducible apply zK); exact rfl; exact tf) | ((with_reducible apply zCD); exact rfl) | ((with_reducible apply zCN); exact rfl) | ((with_reducible apply zC); exact rfl) | ((with_reducible refine zX ?_ ?_); exact rfl) | ((with_reducible refine zE (And.intro ?_ ?_)); exact kr) | (with_reducible refine zE ?_) | ((with_reducible apply zP); exact dp) | ((with_reducible apply zN); exact dn) | ((with_reducible apply zA); exact da) | ((with_reducible apply zS); exact ds) | ((with_reducible apply zY); exact rfl; exact rfl; exact tf) | ((with_reducible apply zG); exact rfl; exact rfl; exact tf) | ((with_reducible apply zU); exact rfl; exact rfl) | ((with_reducible apply zD); exact rfl; exact rfl) | ((with_reducible apply zB); exact rfl; exact rfl)))
  ((with_reducible first | apply q_retR | apply q_retN); exact rl)
  exact rt_bool (by simp)
theorem check_err (xs : List Int) (nm0 : ByteArray) (p0 o0 : Int) (nm1 : ByteArray) (p1 o1 : Int) (D : Int) (F : Nat → Int) (hm : xs.length ≤ 140737488355328) (hs0 : nm0.size ≤ 140737488355328) (hp0 : I64 p0) (hs1 : nm1.size ≤ 140737488355328) (hp1 : I64 p1) (he : pairErr xs nm0 p0 o0 nm1 p1 o1 ≠ 0) :
    AC Try.prog 12 [isl xs, drums2 nm0 p0 o0 nm1 p1 o1, .agg (f5V D F)] (.tuple [I 0, I (pairErr xs nm0 p0 o0 nm1 p1 o1)]) := by
  have hop := openPair_A xs nm0 p0 o0 nm1 p1 o1 hm hs0 hp0 hs1 hp1
  have q0 := within_A D 1 10000000000
  have q1 := unless_A (inR D 1 10000000000) 2
  have q2 := first2_A (pairErr xs nm0 p0 o0 nm1 p1 o1) (unl (inR D 1 10000000000) 2)
  have ef : fst0 [pairErr xs nm0 p0 o0 nm1 p1 o1, unl (inR D 1 10000000000) 2] = pairErr xs nm0 p0 o0 nm1 p1 o1 := fst0_ne he _
  rw [ef] at q2
  generalize pairErr xs nm0 p0 o0 nm1 p1 o1 = e at *
  generalize inR D 1 10000000000 = b at *
  refine ac_body Try.func12 rfl (by kernel_rfl) fun w0 ok => ?_; show AWp _ (ctx0 w0 ok _) _ (ARet _ _ _) (entry _)
  (repeat' (first | (with_reducible first | intro hg | refine mv (by constructor) ?_) | ((with_reducible first | refine zR ?_ ?_ | refine zW mixed ?_ ?_); exact kr) | ((with_reducible apply zK); exact rfl; exact tf) | ((with_reducible apply zCD); exact rfl) | ((with_reducible apply zCN); exact rfl) | ((with_reducible apply zC); exact rfl) | ((with_reducible refine zX ?_ ?_); exact rfl) | ((with_reducible refine zE (And.intro ?_ ?_)); exact kr) | (with_reducible refine zE ?_) | ((with_reducible apply zP); (first | exact dp | exact oc rfl (hop) | exact oc rfl (q0) | exact oc rfl (q1) | exact oc rfl (q2))) | ((with_reducible apply zN); exact dn) | ((with_reducible apply zA); exact da) | ((with_reducible apply zS); exact ds) | ((with_reducible apply zY); exact rfl; exact rfl; exact tf) | ((with_reducible apply zG); exact rfl; exact rfl; exact tf) | ((with_reducible apply zU); exact rfl; exact rfl) | ((with_reducible apply zD); exact rfl; exact rfl) | ((with_reducible apply zB); exact rfl; exact rfl)))
  ((with_reducible first | apply q_retR | apply q_retN); exact rl)
  rfl
theorem check_A (xs : List Int) (nm0 : ByteArray) (p0 o0 : Int) (nm1 : ByteArray) (p1 o1 : Int) (D : Int) (F : Nat → Int) (hs0 : nm0.size ≤ 140737488355328) (hp0 : I64 p0) (hs1 : nm1.size ≤ 140737488355328) (hp1 : I64 p1) (he : pairErr xs nm0 p0 o0 nm1 p1 o1 = 0)
    (W : Nat → Nat → Int) (hWe : ∀ k i, W k i = W4 p0 o0 p1 o1 k i) (res : DV) (hres : res = .tuple [I (fitC W xs xs.length D F).1, I (fitC W xs xs.length D F).2]) :
    AC Try.prog 12 [isl xs, drums2 nm0 p0 o0 nm1 p1 o1, .agg (f5V D F)] res := by
  obtain ⟨e1, e2, e3⟩ := pair_ok he
  obtain ⟨_, hm, hB⟩ := rec_ok e1
  have hd0 := (drum_ok e2).1
  have hd1 := (drum_ok e3).1
  have hop := openPair_A xs nm0 p0 o0 nm1 p1 o1 (by omega) hs0 hp0 hs1 hp1
  rw [he] at hop
  have hcw : ∀ k : Nat, k ≤ 1000 → AC Try.prog 46 [pairV nm0 p0 o0 nm1 p1 o1 xs, I k] (.agg (f4V (W k))) := fun k hk => by
    have h1 := pwaves_A nm0 nm1 p0 o0 p1 o1 xs k hd0 hd1 (by omega) (by omega)
    rwa [show W4 p0 o0 p1 o1 k = W k from funext fun i => (hWe k i).symm] at h1
  have hW : ∀ k i, (W k i).natAbs ≤ 1 := fun k i => by rw [hWe]; exact W4_one _ _ _ _ _ _
  have hx : ∀ k, (nth xs k).natAbs ≤ 1000000 := fun k => by have := nth_rng hB (by omega) k; omega
  clear he e1 e2 e3 hd0 hd1 hWe hB
  have q0 := within_A D 1 10000000000
  have ed : inR D 1 10000000000 = okD D := rfl
  rw [ed] at q0
  have q1 := unless_A (okD D) 2
  have q2 := first2_A 0 (unl (okD D) 2)
  cases hD : okD D
  · rw [hD] at q0 q1 q2
    have q2 : AC Try.prog 30 [.slice 2 [I 0, I (unl false 2)]] (I 2) := q2
    rw [hres, fitC_1 hD]
    clear hres hcw hW hx ed hD
    refine ac_body Try.func12 rfl (by kernel_rfl) fun w0 ok => ?_; show AWp _ (ctx0 w0 ok _) _ (ARet _ _ _) (entry _)
    (repeat' (first | (with_reducible first | intro hg | refine mv (by constructor) ?_) | ((with_reducible first | refine zR ?_ ?_ | refine zW mixed ?_ ?_); exact kr) | ((with_reducible apply zK); exact rfl; exact tf) | ((with_reducible apply zCD); exact rfl) | ((with_reducible apply zCN); exact rfl) | ((with_reducible apply zC); exact rfl) | ((with_reducible refine zX ?_ ?_); exact rfl) | ((with_reducible refine zE (And.intro ?_ ?_)); exact kr) | (with_reducible refine zE ?_) | ((with_reducible apply zP); (first | exact dp | exact oc rfl (hop) | exact oc rfl (q0) | exact oc rfl (q1) | exact oc rfl (q2))) | ((with_reducible apply zN); exact dn) | ((with_reducible apply zA); exact da) | ((with_reducible apply zS); exact ds) | ((with_reducible apply zY); exact rfl; exact rfl; exact tf) | ((with_reducible apply zG); exact rfl; exact rfl; exact tf) | ((with_reducible apply zU); exact rfl; exact rfl) | ((with_reducible apply zD); exact rfl; exact rfl) | ((with_reducible apply zB); exact rfl; exact rfl)))
    ((with_reducible first | apply q_retR | apply q_retN); exact rl)
    rfl
  rw [hD] at q0 q1 q2
  have q2 : AC Try.prog 30 [.slice 2 [I 0, I (unl true 2)]] (I 0) := q2
  refine ac_body Try.func12 rfl (by kernel_rfl) fun w0 ok => ?_; show AWp _ (ctx0 w0 ok _) _ (ARet _ _ _) (entry _)
  (repeat' (first | (with_reducible first | intro hg | refine mv (by constructor) ?_) | ((with_reducible first | refine zR ?_ ?_ | refine zW mixed ?_ ?_); exact kr) | ((with_reducible apply zK); exact rfl; exact tf) | ((with_reducible apply zCD); exact rfl) | ((with_reducible apply zCN); exact rfl) | ((with_reducible apply zC); exact rfl) | ((with_reducible refine zX ?_ ?_); exact rfl) | ((with_reducible refine zE (And.intro ?_ ?_)); exact kr) | (with_reducible refine zE ?_) | ((with_reducible apply zP); (first | exact dp | exact oc rfl (hop) | exact oc rfl (q0) | exact oc rfl (q1) | exact oc rfl (q2))) | ((with_reducible apply zN); exact dn) | ((with_reducible apply zA); exact da) | ((with_reducible apply zS); exact ds) | ((with_reducible apply zY); exact rfl; exact rfl; exact tf) | ((with_reducible apply zG); exact rfl; exact rfl; exact tf) | ((with_reducible apply zU); exact rfl; exact rfl) | ((with_reducible apply zD); exact rfl; exact rfl) | ((with_reducible apply zB); exact rfl; exact rfl)))
  refine awp_loopL (α := Nat) (fun j => [(5, .ptr 5 0), (8, .ptr 8 0), (10, .d (I (gcF D F j))), (41, .d (.agg [I (F 0), I (F 1), I (F 2), I (F 3)])), (42, .d (I j))]) (fun _ => [(5, ⟨34, f5V D F⟩), (8, ⟨72, [S nm0, I p0, I o0, S nm1, I p1, I o1, isl xs]⟩)]) (fun j => j ≤ 4 ∧ fstI (badF F) j (4 - j) = fstI (badF F) 0 4) (fun j => 4 - j) 0 ⟨Nat.zero_le _, rfl⟩ (And.intro rfl (And.intro rfl (And.intro rfl (And.intro rfl (And.intro rfl trivial))))) (And.intro rfl (And.intro rfl trivial)) fun j ⟨hj, hf⟩ => ?_
  by_cases hj4 : j < 4
  · have hbf : ∀ c, c < j → badF F c = false := fun c hc => by
      obtain ⟨a1, a2, a3, a4⟩ := fstI_rng (badF F) (4 - j) j
      obtain ⟨b1, b2, b3, b4⟩ := fstI_rng (badF F) 4 0
      exact b3 c (Nat.zero_le _) (by omega)
    rw [fstI_at _ hj4] at hf
    have bw := isSized_A (F j) 1000000000000000 (by unfold Sm; decide)
    have hix : [I (F 0), I (F 1), I (F 2), I (F 3)][((j : Nat) : Int).toNat * 1]? = some (I (F j)) := f4V_ix (f := F) hj4
    cases hb : badF F j
    · rw [hb] at hf
      have eb : inR (F j) (-1000000000000000) 1000000000000000 = true := by
        unfold badF at hb; simpa using hb
      rw [eb] at bw
      have hg : 0 < gcF D F j ∧ gcF D F j ≤ 10000000000 := gcF_part hD hbf (Nat.le_refl _)
      have hFj := badF_ok hb
      have gg := divisor_A (gcF D F j) (F j) (by unfold Sm; omega) (by unfold Sm; omega)
      clear hres hcw hW hx ed hD hb eb hbf hop q0 q1 q2
      (repeat' (first | (with_reducible first | intro hg | refine mv (by constructor) ?_) | ((with_reducible first | refine zR ?_ ?_ | refine zW mixed ?_ ?_); exact kr) | ((with_reducible apply zK); exact rfl; exact tf) | ((with_reducible apply zCD); exact rfl) | ((with_reducible apply zCN); exact rfl) | ((with_reducible apply zC); exact rfl) | ((with_reducible refine zX ?_ ?_); exact rfl) | ((with_reducible refine zE (And.intro ?_ ?_)); exact kr) | (with_reducible refine zE ?_) | ((with_reducible apply zP); (first | exact o_index rfl rfl (by omega) (by omega) hix | exact dp | exact oc rfl (bw) | exact oc rfl (gg))) | ((with_reducible apply zN); exact dn) | ((with_reducible apply zA); exact da) | ((with_reducible apply zS); exact ds) | ((with_reducible apply zY); exact rfl; exact rfl; exact tf) | ((with_reducible apply zG); exact rfl; exact rfl; exact tf) | ((with_reducible apply zU); exact rfl; exact rfl) | ((with_reducible apply zD); exact rfl; exact rfl) | ((with_reducible apply zB); exact rfl; exact rfl)))
      exact ⟨j + 1, ⟨by omega, hf⟩, by omega, (And.intro rfl (And.intro rfl (And.intro rfl (And.intro rfl (And.intro rfl trivial))))), (And.intro rfl (And.intro rfl trivial))⟩
    · rw [hb] at hf
      have hf : j = fstI (badF F) 0 4 := hf
      have eb : inR (F j) (-1000000000000000) 1000000000000000 = false := by
        unfold badF at hb; simpa using hb
      rw [eb] at bw
      rw [hres, fitC_2 hD hf hj4]
      clear hres hcw hW hx ed hD hb eb hbf hf hop q0 q1 q2
      (repeat' (first | (with_reducible first | intro hg | refine mv (by constructor) ?_) | ((with_reducible first | refine zR ?_ ?_ | refine zW mixed ?_ ?_); exact kr) | ((with_reducible apply zK); exact rfl; exact tf) | ((with_reducible apply zCD); exact rfl) | ((with_reducible apply zCN); exact rfl) | ((with_reducible apply zC); exact rfl) | ((with_reducible refine zX ?_ ?_); exact rfl) | ((with_reducible refine zE (And.intro ?_ ?_)); exact kr) | (with_reducible refine zE ?_) | ((with_reducible apply zP); (first | exact o_index rfl rfl (by omega) (by omega) hix | exact dp | exact oc rfl (bw))) | ((with_reducible apply zN); exact dn) | ((with_reducible apply zA); exact da) | ((with_reducible apply zS); exact ds) | ((with_reducible apply zY); exact rfl; exact rfl; exact tf) | ((with_reducible apply zG); exact rfl; exact rfl; exact tf) | ((with_reducible apply zU); exact rfl; exact rfl) | ((with_reducible apply zD); exact rfl; exact rfl) | ((with_reducible apply zB); exact rfl; exact rfl)))
      ((with_reducible first | apply q_retR | apply q_retN); exact rl)
      rfl
  obtain rfl : j = 4 := by omega
  have hf : 4 = fstI (badF F) 0 4 := hf
  have hnb : ¬ fstI (badF F) 0 4 < 4 := by omega
  have hbf : ∀ c, c < 4 → badF F c = false := fun c hc => fstI_all hnb hc
  have hgb := gcF_bnd hD hbf 4 (Nat.le_refl _)
  by_cases hg1 : gcF D F 4 = 1
  case neg =>
    rw [hres, fitC_3 hD hnb hg1]
    clear hres hcw hW hx ed hD hbf hf hnb hgb hop q0 q1 q2
    (repeat' (first | (with_reducible first | intro hg | refine mv (by constructor) ?_) | ((with_reducible first | refine zR ?_ ?_ | refine zW mixed ?_ ?_); exact kr) | ((with_reducible apply zK); exact rfl; exact tf) | ((with_reducible apply zCD); exact rfl) | ((with_reducible apply zCN); exact rfl) | ((with_reducible apply zC); exact rfl) | ((with_reducible refine zX ?_ ?_); exact rfl) | ((with_reducible refine zE (And.intro ?_ ?_)); exact kr) | (with_reducible refine zE ?_) | ((with_reducible apply zP); exact dp) | ((with_reducible apply zN); exact dn) | ((with_reducible apply zA); exact da) | ((with_reducible apply zS); exact ds) | ((with_reducible apply zY); exact rfl; exact rfl; exact tf) | ((with_reducible apply zG); exact rfl; exact rfl; exact tf) | ((with_reducible apply zU); exact rfl; exact rfl) | ((with_reducible apply zD); exact rfl; exact rfl) | ((with_reducible apply zB); exact rfl; exact rfl)))
    ((with_reducible first | apply q_retR | apply q_retN); exact rl)
    rfl
  have hFb : ∀ c, c < 4 → (F c).natAbs ≤ 1000000000000000 := fun c hc => badF_ok (hbf c hc)
  have hDb : D.natAbs ≤ 10000000000 := by have := inR_true.1 hD; omega
  have hrb := fun k j hj => rsP_bnd (k := k) hDb (hx k) hFb hW j hj
  have hlb := lfS_bnd hDb hx hFb hW
  have c4 := fitC_4 (W := W) (xs := xs) (K := xs.length) hD hnb hg1 (i := fstI (nzF W xs xs.length D F) 0 4) rfl
  have c5 := fitC_5 (W := W) (xs := xs) (K := xs.length) hD hnb hg1
  clear hbf hnb hf hD ed hj hj4 hgb hop q0 q1 q2
  (repeat' (first | (with_reducible first | intro hg | refine mv (by constructor) ?_) | ((with_reducible first | refine zR ?_ ?_ | refine zW mixed ?_ ?_); exact kr) | ((with_reducible apply zK); exact rfl; exact tf) | ((with_reducible apply zCD); exact rfl) | ((with_reducible apply zCN); exact rfl) | ((with_reducible apply zC); exact rfl) | ((with_reducible refine zX ?_ ?_); exact rfl) | ((with_reducible refine zE (And.intro ?_ ?_)); exact kr) | (with_reducible refine zE ?_) | ((with_reducible apply zP); exact dp) | ((with_reducible apply zN); exact dn) | ((with_reducible apply zA); exact da) | ((with_reducible apply zS); exact ds) | ((with_reducible apply zY); exact rfl; exact rfl; exact tf) | ((with_reducible apply zG); exact rfl; exact rfl; exact tf) | ((with_reducible apply zU); exact rfl; exact rfl) | ((with_reducible apply zD); exact rfl; exact rfl) | ((with_reducible apply zB); exact rfl; exact rfl)))
  refine awp_loopL (α := Nat) (fun k => [(5, .ptr 5 0), (8, .ptr 8 0), (13, .ptr 13 0), (57, .d (isl xs)), (58, .d (I xs.length)), (59, .d (I k))]) (fun k => [(5, ⟨34, f5V D F⟩), (8, ⟨72, [S nm0, I p0, I o0, S nm1, I p1, I o1, isl xs]⟩), (13, ⟨32, f4V (fun i => lfS W xs D F i k)⟩)]) (fun k => k ≤ xs.length) (fun k => xs.length - k) 0 (Nat.zero_le _) (And.intro rfl (And.intro rfl (And.intro rfl (And.intro rfl (And.intro rfl (And.intro rfl trivial)))))) (And.intro rfl (And.intro rfl (And.intro rfl trivial))) fun k hk => ?_
  by_cases hlt : k < xs.length
  · have r0 := hrb k 0 (by decide)
    have r0' : rsP W xs D F k 0 = D * nth xs k := rfl
    rw [r0'] at r0
    have r4 := hrb k 4 (by decide)
    have xk := hx k
    have cw := hcw k (by omega)
    have fj := fun j (hj : j < 4) => mul_one_bnd (hW k j) (hFb j hj)
    have hrj := fun j hj => hrb k j hj
    have hl := fun i => hlb i k
    have hm4 := fun i => mul_one_bnd (b := rsP W xs D F k 4) (B := 14000000000000000) (hW k i) (by omega)
    have hst : ∀ i c, c < 4 → (fun c => if c < i + 1 then lfS W xs D F c (k + 1) else lfS W xs D F c k) c = if c = i then lfS W xs D F i k + W k i * rsP W xs D F k 4 else (fun c => if c < i then lfS W xs D F c (k + 1) else lfS W xs D F c k) c := fun i c _ => by
      show (if c < i + 1 then lfS W xs D F c (k + 1) else lfS W xs D F c k) = if c = i then lfS W xs D F i k + W k i * rsP W xs D F k 4 else if c < i then lfS W xs D F c (k + 1) else lfS W xs D F c k
      by_cases e : c = i
      · subst e; rw [if_pos (by omega), if_pos rfl]; rfl
      · rw [if_neg e]
        by_cases h : c < i
        · rw [if_pos h, if_pos (by omega)]
        · rw [if_neg h, if_neg (by omega)]
    clear hcw hrb hlb hW hx hFb c4 c5 hres
    (repeat' (first | (with_reducible first | intro hg | refine mv (by constructor) ?_) | ((with_reducible first | refine zR ?_ ?_ | refine zW mixed ?_ ?_); exact kr) | ((with_reducible apply zK); exact rfl; exact tf) | ((with_reducible apply zCD); exact rfl) | ((with_reducible apply zCN); exact rfl) | ((with_reducible apply zC); exact rfl) | ((with_reducible refine zX ?_ ?_); exact rfl) | ((with_reducible refine zE (And.intro ?_ ?_)); exact kr) | (with_reducible refine zE ?_) | ((with_reducible apply zP); (first | exact o_indexI (xs := xs) (j := k) rfl rfl hlt rfl | exact dp | exact oc rfl (cw))) | ((with_reducible apply zN); exact dn) | ((with_reducible apply zA); exact da) | ((with_reducible apply zS); exact ds) | ((with_reducible apply zY); exact rfl; exact rfl; exact tf) | ((with_reducible apply zG); exact rfl; exact rfl; exact tf) | ((with_reducible apply zU); exact rfl; exact rfl) | ((with_reducible apply zD); exact rfl; exact rfl) | ((with_reducible apply zB); exact rfl; exact rfl)))
    refine awp_loopL (α := Nat) (fun j => [(5, .ptr 5 0), (8, .ptr 8 0), (13, .ptr 13 0), (16, .ptr 16 0), (17, .d (I (rsP W xs D F k j))), (57, .d (isl xs)), (58, .d (I xs.length)), (59, .d (I k)), (71, .d (.agg (f4V (W k)))), (72, .d (I j))]) (fun _ => [(5, ⟨34, f5V D F⟩), (8, ⟨72, [S nm0, I p0, I o0, S nm1, I p1, I o1, isl xs]⟩), (13, ⟨32, f4V (fun i => lfS W xs D F i k)⟩), (16, ⟨32, f4V (W k)⟩)]) (fun j => j ≤ 4) (fun j => 4 - j) 0 (Nat.zero_le _) (And.intro rfl (And.intro rfl (And.intro rfl (And.intro rfl (And.intro rfl (And.intro rfl (And.intro rfl (And.intro rfl (And.intro rfl (And.intro rfl trivial)))))))))) (And.intro rfl (And.intro rfl (And.intro rfl (And.intro rfl trivial)))) fun j hj => ?_
    by_cases hj4 : j < 4
    · have f1 := fj j hj4
      have s1 := hrj j hj
      have s2 := hrj (j + 1) (by omega)
      rw [Int.mul_comm] at f1
      clear fj hrj r4 hl hm4 hst r0
      (repeat' (first | (with_reducible first | intro hg | refine mv (by constructor) ?_) | ((with_reducible first | refine zR ?_ ?_ | refine zW mixed ?_ ?_); exact kr) | ((with_reducible apply zK); exact rfl; exact tf) | ((with_reducible apply zCD); exact rfl) | ((with_reducible apply zCN); exact rfl) | ((with_reducible apply zC); exact rfl) | ((with_reducible refine zX ?_ ?_); exact rfl) | ((with_reducible refine zE (And.intro ?_ ?_)); exact kr) | (with_reducible refine zE ?_) | ((with_reducible apply zP); (first | exact o_index rfl rfl (by omega) (by omega) (f4V_ix hj4) | exact o_load1 rfl rfl (f5V_get hj4) | exact dp)) | ((with_reducible apply zN); exact dn) | ((with_reducible apply zA); exact da) | ((with_reducible apply zS); exact ds) | ((with_reducible apply zY); exact rfl; exact rfl; exact tf) | ((with_reducible apply zG); exact rfl; exact rfl; exact tf) | ((with_reducible apply zU); exact rfl; exact rfl) | ((with_reducible apply zD); exact rfl; exact rfl) | ((with_reducible apply zB); exact rfl; exact rfl)))
      exact ⟨j + 1, by omega, by omega, (And.intro rfl (And.intro rfl (And.intro rfl (And.intro rfl (And.intro rfl (And.intro rfl (And.intro rfl (And.intro rfl (And.intro rfl (And.intro rfl trivial)))))))))), (And.intro rfl (And.intro rfl (And.intro rfl (And.intro rfl trivial))))⟩
    obtain rfl : j = 4 := by omega
    clear fj hrj r0 hj4 hj
    (repeat' (first | (with_reducible first | intro hg | refine mv (by constructor) ?_) | ((with_reducible first | refine zR ?_ ?_ | refine zW mixed ?_ ?_); exact kr) | ((with_reducible apply zK); exact rfl; exact tf) | ((with_reducible apply zCD); exact rfl) | ((with_reducible apply zCN); exact rfl) | ((with_reducible apply zC); exact rfl) | ((with_reducible refine zX ?_ ?_); exact rfl) | ((with_reducible refine zE (And.intro ?_ ?_)); exact kr) | (with_reducible refine zE ?_) | ((with_reducible apply zP); exact dp) | ((with_reducible apply zN); exact dn) | ((with_reducible apply zA); exact da) | ((with_reducible apply zS); exact ds) | ((with_reducible apply zY); exact rfl; exact rfl; exact tf) | ((with_reducible apply zG); exact rfl; exact rfl; exact tf) | ((with_reducible apply zU); exact rfl; exact rfl) | ((with_reducible apply zD); exact rfl; exact rfl) | ((with_reducible apply zB); exact rfl; exact rfl)))
    refine awp_loopL (α := Nat) (fun i => [(5, .ptr 5 0), (8, .ptr 8 0), (13, .ptr 13 0), (17, .d (I (rsP W xs D F k 4))), (57, .d (isl xs)), (58, .d (I xs.length)), (59, .d (I k)), (85, .d (.agg (f4V (W k)))), (86, .d (I i))]) (fun i => [(5, ⟨34, f5V D F⟩), (8, ⟨72, [S nm0, I p0, I o0, S nm1, I p1, I o1, isl xs]⟩), (13, ⟨32, f4V (fun c => if c < i then lfS W xs D F c (k + 1) else lfS W xs D F c k)⟩)]) (fun i => i ≤ 4) (fun i => 4 - i) 0 (Nat.zero_le _) (And.intro rfl (And.intro rfl (And.intro rfl (And.intro rfl (And.intro rfl (And.intro rfl (And.intro rfl (And.intro rfl (And.intro rfl trivial))))))))) (And.intro rfl (And.intro rfl (And.intro rfl trivial))) fun i hi => ?_
    by_cases hi4 : i < 4
    · have l1 := hl i
      have l2 := hm4 i
      have l3 : (f4V (fun c => if c < i then lfS W xs D F c (k + 1) else lfS W xs D F c k)).drop (0 + ((i : Nat) : Int).toNat * 1) = (f4V (fun c => if c < i then lfS W xs D F c (k + 1) else lfS W xs D F c k)).drop (0 + ((i : Nat) : Int).toNat * 1) := rfl
      have hgt : ((f4V (fun c => if c < i then lfS W xs D F c (k + 1) else lfS W xs D F c k)).drop (0 + ((i : Nat) : Int).toNat * 1))[0]? = some (I (lfS W xs D F i k)) := by
        rw [f4V_get hi4, if_neg (Nat.lt_irrefl i)]
      have hsi := hst i
      clear hl hm4 hst l3 r4
      (repeat' (first | (with_reducible first | intro hg | refine mv (by constructor) ?_) | ((with_reducible first | refine zR ?_ ?_ | refine zW mixed ?_ ?_); exact kr) | ((with_reducible apply zK); exact rfl; exact tf) | ((with_reducible apply zCD); exact rfl) | ((with_reducible apply zCN); exact rfl) | ((with_reducible apply zC); exact rfl) | ((with_reducible refine zX ?_ ?_); exact rfl) | ((with_reducible refine zE (And.intro ?_ ?_)); exact kr) | (with_reducible refine zE ?_) | ((with_reducible apply zP); (first | exact o_index rfl rfl (by omega) (by omega) (f4V_ix hi4) | exact o_load1 rfl rfl hgt | exact dp)) | ((with_reducible apply zN); exact dn) | ((with_reducible apply zA); exact da) | ((with_reducible apply zS); (first | exact o_store rfl rfl rfl rfl (by rfl) (by show _ ≤ 4; omega) (f4V_set hi4 _ hsi) | exact ds)) | ((with_reducible apply zY); exact rfl; exact rfl; exact tf) | ((with_reducible apply zG); exact rfl; exact rfl; exact tf) | ((with_reducible apply zU); exact rfl; exact rfl) | ((with_reducible apply zD); exact rfl; exact rfl) | ((with_reducible apply zB); exact rfl; exact rfl)))
      exact ⟨i + 1, by omega, by omega, (And.intro rfl (And.intro rfl (And.intro rfl (And.intro rfl (And.intro rfl (And.intro rfl (And.intro rfl (And.intro rfl (And.intro rfl trivial))))))))), (And.intro rfl (And.intro rfl (And.intro rfl trivial)))⟩
    obtain rfl : i = 4 := by omega
    have hend : f4V (fun c => if c < 4 then lfS W xs D F c (k + 1) else lfS W xs D F c k) = f4V (fun c => lfS W xs D F c (k + 1)) := f4V_congr fun r hr => if_pos hr
    clear hl hm4 hst r4
    (repeat' (first | (with_reducible first | intro hg | refine mv (by constructor) ?_) | ((with_reducible first | refine zR ?_ ?_ | refine zW mixed ?_ ?_); exact kr) | ((with_reducible apply zK); exact rfl; exact tf) | ((with_reducible apply zCD); exact rfl) | ((with_reducible apply zCN); exact rfl) | ((with_reducible apply zC); exact rfl) | ((with_reducible refine zX ?_ ?_); exact rfl) | ((with_reducible refine zE (And.intro ?_ ?_)); exact kr) | (with_reducible refine zE ?_) | ((with_reducible apply zP); exact dp) | ((with_reducible apply zN); exact dn) | ((with_reducible apply zA); exact da) | ((with_reducible apply zS); exact ds) | ((with_reducible apply zY); exact rfl; exact rfl; exact tf) | ((with_reducible apply zG); exact rfl; exact rfl; exact tf) | ((with_reducible apply zU); exact rfl; exact rfl) | ((with_reducible apply zD); exact rfl; exact rfl) | ((with_reducible apply zB); exact rfl; exact rfl)))
    exact ⟨k + 1, hlt, by omega, (And.intro rfl (And.intro rfl (And.intro rfl (And.intro rfl (And.intro rfl (And.intro rfl trivial)))))), (And.intro rfl (And.intro rfl (And.intro (congrArg (fun m => some (Blk.mk _ m)) hend) trivial)))⟩
  obtain rfl : k = xs.length := by omega
  have hix := indexFunc_A _ (EntI.eq (P := Try.prog) (f := 48)) (fun n => decide (n ≠ 0)) [lfS W xs D F 0 xs.length, lfS W xs D F 1 xs.length, lfS W xs D F 2 xs.length, lfS W xs D F 3 xs.length] (by simp) (fun n _ => nz_A n)
  have hfi := idxF_fst fun i => lfS W xs D F i xs.length
  have hfe : fstI (fun i => decide (lfS W xs D F i xs.length ≠ 0)) 0 4 = fstI (nzF W xs xs.length D F) 0 4 := rfl
  rw [hfe] at hfi
  rw [hfi] at hix
  clear hcw hrb hlb hW hx hFb hfi hfe
  by_cases hz : fstI (nzF W xs xs.length D F) 0 4 < 4
  · rw [if_pos hz] at hix
    rw [hres, c4 hz]
    have hne : ¬ [lfS W xs D F 0 xs.length, lfS W xs D F 1 xs.length, lfS W xs D F 2 xs.length, lfS W xs D F 3 xs.length] = [0, 0, 0, 0] := fun e => by
      injection e with e0 e
      injection e with e1 e
      injection e with e2 e
      injection e with e3 _
      have := fstI_none (p := nzF W xs xs.length D F) fun i hi => by
        have hc : i = 0 ∨ i = 1 ∨ i = 2 ∨ i = 3 := by omega
        unfold nzF
        rcases hc with rfl | rfl | rfl | rfl
        · rw [e0]; rfl
        · rw [e1]; rfl
        · rw [e2]; rfl
        · rw [e3]; rfl
      omega
    clear c4 c5 hres
    (repeat' ((fail_if_success (with_reducible show AWp _ _ (.seq (.region 34 _ _) _) _ _)); (first | (with_reducible first | intro hg | refine mv (by constructor) ?_) | ((with_reducible first | refine zR ?_ ?_ | refine zW mixed ?_ ?_); exact kr) | ((with_reducible apply zK); exact rfl; exact tf) | ((with_reducible apply zCD); exact rfl) | ((with_reducible apply zCN); exact rfl) | ((with_reducible apply zC); exact rfl) | ((with_reducible refine zX ?_ ?_); exact rfl) | ((with_reducible refine zE (And.intro ?_ ?_)); exact kr) | (with_reducible refine zE ?_) | ((with_reducible apply zP); exact dp) | ((with_reducible apply zN); exact dn) | ((with_reducible apply zA); exact da) | ((with_reducible apply zS); exact ds) | ((with_reducible apply zY); exact rfl; exact rfl; exact tf) | ((with_reducible apply zG); exact rfl; exact rfl; exact tf) | ((with_reducible apply zU); exact rfl; exact rfl) | ((with_reducible apply zD); exact rfl; exact rfl) | ((with_reducible apply zB); exact rfl; exact rfl))))
    refine awp_freeze 13 rfl ?_
    (repeat' (first | (with_reducible first | intro hg | refine mv (by constructor) ?_) | ((with_reducible first | refine zR ?_ ?_ | refine zW mixed ?_ ?_); exact kr) | ((with_reducible apply zK); exact rfl; exact tf) | ((with_reducible apply zCD); exact rfl) | ((with_reducible apply zCN); exact rfl) | ((with_reducible apply zC); exact rfl) | ((with_reducible refine zX ?_ ?_); exact rfl) | ((with_reducible refine zE (And.intro ?_ ?_)); exact kr) | (with_reducible refine zE ?_) | ((with_reducible apply zP); (first | exact o_sliceArr rfl (by decide) rfl | exact dp | exact oc rfl (hix))) | ((with_reducible apply zN); exact dn) | ((with_reducible apply zA); exact da) | ((with_reducible apply zS); exact ds) | ((with_reducible apply zY); exact rfl; exact rfl; exact tf) | ((with_reducible apply zG); exact rfl; exact rfl; exact tf) | ((with_reducible apply zU); exact rfl; exact rfl) | ((with_reducible apply zD); exact rfl; exact rfl) | ((with_reducible apply zB); exact rfl; exact rfl)))
    ((with_reducible first | apply q_retR | apply q_retN); exact rl)
    rfl
  · rw [hres, c5 hz]
    have heq : [lfS W xs D F 0 xs.length, lfS W xs D F 1 xs.length, lfS W xs D F 2 xs.length, lfS W xs D F 3 xs.length] = [0, 0, 0, 0] := by
      have h : ∀ i, i < 4 → lfS W xs D F i xs.length = 0 := fun i hi => by
        have := fstI_all hz hi
        unfold nzF at this
        simpa using this
      rw [h 0 (by omega), h 1 (by omega), h 2 (by omega), h 3 (by omega)]
    clear c4 c5 hres hix
    (repeat' (first | (with_reducible first | intro hg | refine mv (by constructor) ?_) | ((with_reducible first | refine zR ?_ ?_ | refine zW mixed ?_ ?_); exact kr) | ((with_reducible apply zK); exact rfl; exact tf) | ((with_reducible apply zCD); exact rfl) | ((with_reducible apply zCN); exact rfl) | ((with_reducible apply zC); exact rfl) | ((with_reducible refine zX ?_ ?_); exact rfl) | ((with_reducible refine zE (And.intro ?_ ?_)); exact kr) | (with_reducible refine zE ?_) | ((with_reducible apply zP); exact dp) | ((with_reducible apply zN); exact dn) | ((with_reducible apply zA); exact da) | ((with_reducible apply zS); exact ds) | ((with_reducible apply zY); exact rfl; exact rfl; exact tf) | ((with_reducible apply zG); exact rfl; exact rfl; exact tf) | ((with_reducible apply zU); exact rfl; exact rfl) | ((with_reducible apply zD); exact rfl; exact rfl) | ((with_reducible apply zB); exact rfl; exact rfl)))
    ((with_reducible first | apply q_retR | apply q_retN); exact rl)
    rfl

end Go.Proofs.Ytgjhikjnlcbmkaa
