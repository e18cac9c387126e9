/- Walks: ErrorOf, and the reference's Error and part. -/
import Derived.Test.YtgjhikjnlcbmkaaGa
import Derived.Test.YtgjhikjnlcbmkaaM6
set_option linter.unusedVariables false
set_option linter.unusedSimpArgs false
namespace Go.Proofs.Ytgjhikjnlcbmkaa
open Go.RowKit
set_option maxRecDepth 20000
set_option maxHeartbeats 8000000

theorem sq_nn (a : Int) : 0 ≤ a * a := by
  rcases Int.le_total 0 a with h | h
  · exact Int.mul_nonneg h h
  · exact Int.mul_nonneg_of_nonpos_of_nonpos h h
def errT (p0 o0 p1 o1 : Int) (xs : List Int) (re0 im0 re1 im1 : Int) (k : Nat) : Int := nth xs k - wave p0 o0 re0 im0 k - wave p1 o1 re1 im1 k
def errS (p0 o0 p1 o1 : Int) (xs : List Int) (re0 im0 re1 im1 : Int) (n : Nat) : Int := sumTo (fun k => errT p0 o0 p1 o1 xs re0 im0 re1 im1 k * errT p0 o0 p1 o1 xs re0 im0 re1 im1 k) n
theorem sq_bnd2 {e B : Int} (h1 : -B ≤ e) (h2 : e ≤ B) : 0 ≤ e * e ∧ e * e ≤ B * B := by
  refine ⟨sq_nn e, ?_⟩
  have h3 : 0 ≤ B := by omega
  have h4 : e.natAbs ≤ B.natAbs := by omega
  have h5 : e.natAbs * e.natAbs ≤ B.natAbs * B.natAbs := Nat.mul_le_mul h4 h4
  have h6 : ((e.natAbs * e.natAbs : Nat) : Int) = e * e := Int.natAbs_mul_self
  have h7 : ((B.natAbs * B.natAbs : Nat) : Int) = B * B := Int.natAbs_mul_self
  omega
theorem sumTo_rng {f : Nat → Int} {C : Int} (h : ∀ k, 0 ≤ f k ∧ f k ≤ C) : ∀ n, 0 ≤ sumTo f n ∧ sumTo f n ≤ n * C
  | 0 => by simp [sumTo]
  | n + 1 => by
    have h1 := sumTo_rng h n
    have h2 := h n
    unfold sumTo
    rw [Int.natCast_add, Int.add_mul, Int.natCast_one, Int.one_mul]
    omega
theorem nth_rng {xs : List Int} {B : Int} (hB : Bnd B xs) (h0 : 0 ≤ B) (k : Nat) : -B ≤ nth xs k ∧ nth xs k ≤ B := by
  by_cases hk : k < xs.length
  · exact nth_bnd hB hk
  · unfold nth; rw [List.getD_eq_getElem?_getD, List.getElem?_eq_none (by omega)]; simp; omega
theorem errT_bnd {p0 o0 p1 o1 : Int} {xs : List Int} {re0 im0 re1 im1 B : Int} (h0 : 0 ≤ B) (hB : Bnd B xs) (h1 : -B ≤ re0 ∧ re0 ≤ B) (h2 : -B ≤ im0 ∧ im0 ≤ B) (h3 : -B ≤ re1 ∧ re1 ≤ B) (h4 : -B ≤ im1 ∧ im1 ≤ B) (k : Nat) :
    -(3 * B) ≤ errT p0 o0 p1 o1 xs re0 im0 re1 im1 k ∧ errT p0 o0 p1 o1 xs re0 im0 re1 im1 k ≤ 3 * B := by
  have a1 := wave_bnd2 (p := p0) (o := o0) (k := (k : Int)) h1 h2
  have a2 := wave_bnd2 (p := p1) (o := o1) (k := (k : Int)) h3 h4
  have a3 := nth_rng hB h0 k
  unfold errT; omega
theorem errS_bnd {p0 o0 p1 o1 : Int} {xs : List Int} {re0 im0 re1 im1 B : Int} (h0 : 0 ≤ B) (hB : Bnd B xs) (h1 : -B ≤ re0 ∧ re0 ≤ B) (h2 : -B ≤ im0 ∧ im0 ≤ B) (h3 : -B ≤ re1 ∧ re1 ≤ B) (h4 : -B ≤ im1 ∧ im1 ≤ B) (n : Nat) :
    0 ≤ errS p0 o0 p1 o1 xs re0 im0 re1 im1 n ∧ errS p0 o0 p1 o1 xs re0 im0 re1 im1 n ≤ n * (3 * B * (3 * B)) :=
  sumTo_rng (fun k => by have := errT_bnd (p0 := p0) (o0 := o0) (p1 := p1) (o1 := o1) h0 hB h1 h2 h3 h4 k; exact sq_bnd2 this.1 this.2) n

theorem errorOf_ok (xs : List Int) (nm0 : ByteArray) (p0 o0 : Int) (nm1 : ByteArray) (p1 o1 : Int) (re0 im0 re1 im1 : Int) (hs0 : nm0.size ≤ 140737488355328) (hp0 : I64 p0) (hs1 : nm1.size ≤ 140737488355328) (hp1 : I64 p1) (he : pairErr xs nm0 p0 o0 nm1 p1 o1 = 0)
    (ha0 : ampErr re0 im0 = 0) (ha1 : ampErr re1 im1 = 0) :
    AC Try.prog 9 [isl xs, drums2 nm0 p0 o0 nm1 p1 o1, .agg [I re0, I im0, I re1, I im1]] (.tuple [I (errS p0 o0 p1 o1 xs re0 im0 re1 im1 xs.length), I 0]) := by
  obtain ⟨e1, e2, e3⟩ := pair_ok he
  obtain ⟨_, hm, hB⟩ := rec_ok e1
  have hd0 := (drum_ok e2).1
  have hd1 := (drum_ok e3).1
  have hz : ∀ {re im : Int}, ampErr re im = 0 → (-1000000 ≤ re ∧ re ≤ 1000000) ∧ (-1000000 ≤ im ∧ im ≤ 1000000) := fun {re im} h => by
    unfold ampErr at h
    have h2 := unl_ok (by decide) h
    rw [Bool.and_eq_true, inR_true, inR_true] at h2
    exact h2
  obtain ⟨z1, z2⟩ := hz ha0
  obtain ⟨z3, z4⟩ := hz ha1
  have hT := errT_bnd (p0 := p0) (o0 := o0) (p1 := p1) (o1 := o1) (by omega) hB z1 z2 z3 z4
  have hS := errS_bnd (p0 := p0) (o0 := o0) (p1 := p1) (o1 := o1) (by omega) hB z1 z2 z3 z4
  have hop := openPair_A xs nm0 p0 o0 nm1 p1 o1 (by omega) hs0 hp0 hs1 hp1
  rw [he] at hop
  have q0 := ampErr_A re0 im0
  rw [ha0] at q0
  have q1 := ampErr_A re1 im1
  rw [ha1] at q1
  refine ac_body Try.func9 rfl (by kernel_rfl) fun w0 ok => ?_; show AWp _ (ctx0 w0 ok _) _ (ARet _ _ _) (entry _)
  (repeat' (first | (with_reducible first | intro hg | refine mv (by constructor) ?_) | ((with_reducible first | refine zR ?_ ?_ | refine zW mixed ?_ ?_); exact kr) | ((with_reducible apply zK); exact rfl; exact tf) | ((with_reducible apply zCD); exact rfl) | ((with_reducible apply zCN); exact rfl) | ((with_reducible apply zC); exact rfl) | ((with_reducible refine zX ?_ ?_); exact rfl) | ((with_reducible refine zE (And.intro ?_ ?_)); exact kr) | (with_reducible refine zE ?_) | ((with_reducible apply zP); (first | exact dp | exact oc rfl (hop) | exact oc rfl (q0) | exact oc rfl (q1) | exact oc rfl (first3_A _ _ _))) | ((with_reducible apply zN); exact dn) | ((with_reducible apply zA); exact da) | ((with_reducible apply zS); exact ds) | ((with_reducible apply zY); exact rfl; exact rfl; exact tf) | ((with_reducible apply zG); exact rfl; exact rfl; exact tf) | ((with_reducible apply zU); exact rfl; exact rfl) | ((with_reducible apply zD); exact rfl; exact rfl) | ((with_reducible apply zB); exact rfl; exact rfl)))
  refine awp_loopL (α := Nat) (fun k => [(5, .ptr 5 0), (8, .ptr 8 0), (10, .d (I (errS p0 o0 p1 o1 xs re0 im0 re1 im1 k))), (33, .d (isl xs)), (34, .d (I xs.length)), (35, .d (I (k : Nat)))])
    (fun _ => [(5, ⟨41, [I re0, I im0, I re1, I im1]⟩), (8, ⟨72, [S nm0, I p0, I o0, S nm1, I p1, I o1, isl xs]⟩)]) (fun k => k ≤ xs.length) (fun k => xs.length - k) 0 (Nat.zero_le _) (And.intro rfl (And.intro rfl (And.intro rfl (And.intro rfl (And.intro rfl (And.intro rfl trivial)))))) (And.intro rfl (And.intro rfl trivial)) fun k hk => ?_
  by_cases hlt : k < xs.length
  · have a1 := wave_bnd2 (p := p0) (o := o0) (k := (k : Int)) z1 z2
    have a2 := wave_bnd2 (p := p1) (o := o1) (k := (k : Int)) z3 z4
    have a3 := nth_rng hB (by omega) k
    have a4 := hT k
    have a5 := sq_bnd2 a4.1 a4.2
    have a6 := hS k
    unfold errT at a4 a5
    (repeat' (first | (with_reducible first | intro hg | refine mv (by constructor) ?_ | refine awp_loopU ?_ | refine awpL_step ?_) | ((with_reducible first | refine zR ?_ ?_ | refine zW mixed ?_ ?_); exact kr) | ((with_reducible apply zK); exact rfl; exact tf) | ((with_reducible apply zCD); exact rfl) | ((with_reducible apply zCN); exact rfl) | ((with_reducible apply zC); exact rfl) | ((with_reducible refine zX ?_ ?_); exact rfl) | ((with_reducible refine zE (And.intro ?_ ?_)); exact kr) | (with_reducible refine zE ?_) | ((with_reducible apply zP); (first | exact dp | exact oc rfl (waveN_A _ _ _ _ _ _ hd0 (by omega) (by omega) (by omega) (by omega)) | exact oc rfl (waveN_A _ _ _ _ _ _ hd1 (by omega) (by omega) (by omega) (by omega)) | exact oc rfl (numberOf_A _ _))) | ((with_reducible apply zN); exact dn) | ((with_reducible apply zA); exact da) | ((with_reducible apply zS); exact ds) | ((with_reducible apply zY); exact rfl; exact rfl; exact tf) | ((with_reducible apply zG); exact rfl; exact rfl; exact tf) | ((with_reducible apply zU); exact rfl; exact rfl) | ((with_reducible apply zD); exact rfl; exact rfl) | ((with_reducible apply zB); exact rfl; exact rfl)))
    exact ⟨k + 1, hlt, by omega, (And.intro rfl (And.intro rfl (And.intro rfl (And.intro rfl (And.intro rfl (And.intro rfl trivial)))))), (And.intro rfl (And.intro rfl trivial))⟩
  · have hkk : k = xs.length := Nat.le_antisymm hk (by omega)
    subst hkk
    (repeat' (first | (with_reducible first | intro hg | refine mv (by constructor) ?_) | ((with_reducible first | refine zR ?_ ?_ | refine zW mixed ?_ ?_); exact kr) | ((with_reducible apply zK); exact rfl; exact tf) | ((with_reducible apply zCD); exact rfl) | ((with_reducible apply zCN); exact rfl) | ((with_reducible apply zC); exact rfl) | ((with_reducible refine zX ?_ ?_); exact rfl) | ((with_reducible refine zE (And.intro ?_ ?_)); exact kr) | (with_reducible refine zE ?_) | ((with_reducible apply zP); exact dp) | ((with_reducible apply zN); exact dn) | ((with_reducible apply zA); exact da) | ((with_reducible apply zS); exact ds) | ((with_reducible apply zY); exact rfl; exact rfl; exact tf) | ((with_reducible apply zG); exact rfl; exact rfl; exact tf) | ((with_reducible apply zU); exact rfl; exact rfl) | ((with_reducible apply zD); exact rfl; exact rfl) | ((with_reducible apply zB); exact rfl; exact rfl)))
    ((with_reducible first | apply q_retR | apply q_retN); exact rl)
    rfl
theorem errorOf_err (xs : List Int) (nm0 : ByteArray) (p0 o0 : Int) (nm1 : ByteArray) (p1 o1 : Int) (re0 im0 re1 im1 : Int) (hm : xs.length ≤ 140737488355328) (hs0 : nm0.size ≤ 140737488355328) (hp0 : I64 p0) (hs1 : nm1.size ≤ 140737488355328) (hp1 : I64 p1)
    (he : fst0 [pairErr xs nm0 p0 o0 nm1 p1 o1, ampErr re0 im0, ampErr re1 im1] ≠ 0) :
    AC Try.prog 9 [isl xs, drums2 nm0 p0 o0 nm1 p1 o1, .agg [I re0, I im0, I re1, I im1]] (.tuple [I 0, I (fst0 [pairErr xs nm0 p0 o0 nm1 p1 o1, ampErr re0 im0, ampErr re1 im1])]) := by
  have hop := openPair_A xs nm0 p0 o0 nm1 p1 o1 hm hs0 hp0 hs1 hp1
  have q0 := ampErr_A re0 im0
  have q1 := ampErr_A re1 im1
  have q2 := first3_A (pairErr xs nm0 p0 o0 nm1 p1 o1) (ampErr re0 im0) (ampErr re1 im1)
  generalize fst0 [pairErr xs nm0 p0 o0 nm1 p1 o1, ampErr re0 im0, ampErr re1 im1] = e at *
  refine ac_body Try.func9 rfl (by kernel_rfl) fun w0 ok => ?_; show AWp _ (ctx0 w0 ok _) _ (ARet _ _ _) (entry _)
  (repeat' (first | (with_reducible first | intro hg | refine mv (by constructor) ?_) | ((with_reducible first | refine zR ?_ ?_ | refine zW mixed ?_ ?_); exact kr) | ((with_reducible apply zK); exact rfl; exact tf) | ((with_reducible apply zCD); exact rfl) | ((with_reducible apply zCN); exact rfl) | ((with_reducible apply zC); exact rfl) | ((with_reducible refine zX ?_ ?_); exact rfl) | ((with_reducible refine zE (And.intro ?_ ?_)); exact kr) | (with_reducible refine zE ?_) | ((with_reducible apply zP); (first | exact dp | exact oc rfl (hop) | exact oc rfl (q0) | exact oc rfl (q1) | exact oc rfl (q2))) | ((with_reducible apply zN); exact dn) | ((with_reducible apply zA); exact da) | ((with_reducible apply zS); exact ds) | ((with_reducible apply zY); exact rfl; exact rfl; exact tf) | ((with_reducible apply zG); exact rfl; exact rfl; exact tf) | ((with_reducible apply zU); exact rfl; exact rfl) | ((with_reducible apply zD); exact rfl; exact rfl) | ((with_reducible apply zB); exact rfl; exact rfl)))
  ((with_reducible first | apply q_retR | apply q_retN); exact rl)
  rfl
theorem part_A (nm0 : ByteArray) (p0 o0 : Int) (nm1 : ByteArray) (p1 o1 : Int) (j : Nat) (k : Int) (hd0 : Drum p0 o0) (hd1 : Drum p1 o1) (hj : j < 4) (h0 : 0 ≤ k) (h1 : k ≤ 1000000) : AC Try.prog 36 [drums2 nm0 p0 o0 nm1 p1 o1, I j, I k] (I (W4 p0 o0 p1 o1 k j)) := by
  have hc : j = 0 ∨ j = 1 ∨ j = 2 ∨ j = 3 := by omega
  have s0 : Sm 0 := by unfold Sm; decide
  have s1 : Sm 1 := by unfold Sm; decide
  have b0 := bwave_A nm0 p0 o0 1 0 k hd0 h0 h1 s1 s0
  have b1 := bwave_A nm0 p0 o0 0 1 k hd0 h0 h1 s0 s1
  have b2 := bwave_A nm1 p1 o1 1 0 k hd1 h0 h1 s1 s0
  have b3 := bwave_A nm1 p1 o1 0 1 k hd1 h0 h1 s0 s1
  rcases hc with rfl | rfl | rfl | rfl
  all_goals
    refine ac_body Try.func36 rfl (by kernel_rfl) fun w0 ok => ?_; show AWp _ (ctx0 w0 ok _) _ (ARet _ _ _) (entry _)
    (repeat' (first | (with_reducible first | intro hg | refine mv (by constructor) ?_) | ((with_reducible first | refine zR ?_ ?_ | refine zW mixed ?_ ?_); exact kr) | ((with_reducible apply zK); exact rfl; exact tf) | ((with_reducible apply zCD); exact rfl) | ((with_reducible apply zCN); exact rfl) | ((with_reducible apply zC); exact rfl) | ((with_reducible refine zX ?_ ?_); exact rfl) | ((with_reducible refine zE (And.intro ?_ ?_)); exact kr) | (with_reducible refine zE ?_) | ((with_reducible apply zP); (first | exact dp | exact oc rfl (b0) | exact oc rfl (b1) | exact oc rfl (b2) | exact oc rfl (b3))) | ((with_reducible apply zN); exact dn) | ((with_reducible apply zA); exact da) | ((with_reducible apply zS); exact ds) | ((with_reducible apply zY); exact rfl; exact rfl; exact tf) | ((with_reducible apply zG); exact rfl; exact rfl; exact tf) | ((with_reducible apply zU); exact rfl; exact rfl) | ((with_reducible apply zD); exact rfl; exact rfl) | ((with_reducible apply zB); exact rfl; exact rfl)))
    ((with_reducible first | apply q_retR | apply q_retN); exact rl)
    rfl
theorem refError_A (xs : List Int) (nm0 : ByteArray) (p0 o0 : Int) (nm1 : ByteArray) (p1 o1 : Int) (re0 im0 re1 im1 : Int) (hs0 : nm0.size ≤ 140737488355328) (hs1 : nm1.size ≤ 140737488355328) (he : pairErr xs nm0 p0 o0 nm1 p1 o1 = 0)
    (ha0 : ampErr re0 im0 = 0) (ha1 : ampErr re1 im1 = 0) :
    AC Try.prog 14 [isl xs, drums2 nm0 p0 o0 nm1 p1 o1, .agg [I re0, I im0, I re1, I im1]] (I (errS p0 o0 p1 o1 xs re0 im0 re1 im1 xs.length)) := by
  obtain ⟨e1, e2, e3⟩ := pair_ok he
  obtain ⟨_, hm, hB⟩ := rec_ok e1
  have hd0 := (drum_ok e2).1
  have hd1 := (drum_ok e3).1
  have hz : ∀ {re im : Int}, ampErr re im = 0 → (-1000000 ≤ re ∧ re ≤ 1000000) ∧ (-1000000 ≤ im ∧ im ≤ 1000000) := fun {re im} h => by
    unfold ampErr at h
    have h2 := unl_ok (by decide) h
    rw [Bool.and_eq_true, inR_true, inR_true] at h2
    exact h2
  obtain ⟨z1, z2⟩ := hz ha0
  obtain ⟨z3, z4⟩ := hz ha1
  have hT := errT_bnd (p0 := p0) (o0 := o0) (p1 := p1) (o1 := o1) (by omega) hB z1 z2 z3 z4
  have hS := errS_bnd (p0 := p0) (o0 := o0) (p1 := p1) (o1 := o1) (by omega) hB z1 z2 z3 z4
  have m0 : Sm re0 := by unfold Sm; omega
  have m1 : Sm im0 := by unfold Sm; omega
  have m2 : Sm re1 := by unfold Sm; omega
  have m3 : Sm im1 := by unfold Sm; omega
  refine ac_body Try.func14 rfl (by kernel_rfl) fun w0 ok => ?_; show AWp _ (ctx0 w0 ok _) _ (ARet _ _ _) (entry _)
  (repeat' (first | (with_reducible first | intro hg | refine mv (by constructor) ?_) | ((with_reducible first | refine zR ?_ ?_ | refine zW mixed ?_ ?_); exact kr) | ((with_reducible apply zK); exact rfl; exact tf) | ((with_reducible apply zCD); exact rfl) | ((with_reducible apply zCN); exact rfl) | ((with_reducible apply zC); exact rfl) | ((with_reducible refine zX ?_ ?_); exact rfl) | ((with_reducible refine zE (And.intro ?_ ?_)); exact kr) | (with_reducible refine zE ?_) | ((with_reducible apply zP); exact dp) | ((with_reducible apply zN); exact dn) | ((with_reducible apply zA); exact da) | ((with_reducible apply zS); exact ds) | ((with_reducible apply zY); exact rfl; exact rfl; exact tf) | ((with_reducible apply zG); exact rfl; exact rfl; exact tf) | ((with_reducible apply zU); exact rfl; exact rfl) | ((with_reducible apply zD); exact rfl; exact rfl) | ((with_reducible apply zB); exact rfl; exact rfl)))
  refine awp_loopL (α := Nat) (fun k => [(0, .d (isl xs)), (4, .ptr 4 0), (5, .ptr 5 0), (7, .d (I (errS p0 o0 p1 o1 xs re0 im0 re1 im1 k))), (8, .d (I (k : Nat)))])
    (fun _ => [(4, ⟨25, [S nm0, I p0, I o0, S nm1, I p1, I o1]⟩), (5, ⟨41, [I re0, I im0, I re1, I im1]⟩)]) (fun k => k ≤ xs.length) (fun k => xs.length - k) 0 (Nat.zero_le _) (And.intro rfl (And.intro rfl (And.intro rfl (And.intro rfl (And.intro rfl trivial))))) (And.intro rfl (And.intro rfl trivial)) fun k hk => ?_
  by_cases hlt : k < xs.length
  · have a1 := wave_bnd2 (p := p0) (o := o0) (k := (k : Int)) z1 z2
    have a2 := wave_bnd2 (p := p1) (o := o1) (k := (k : Int)) z3 z4
    have a3 := nth_rng hB (by omega) k
    have a4 := hT k
    have a5 := sq_bnd2 a4.1 a4.2
    have a6 := hS k
    have w1 := bwave_A nm0 p0 o0 re0 im0 k hd0 (by omega) (by omega) m0 m1
    have w2 := bwave_A nm1 p1 o1 re1 im1 k hd1 (by omega) (by omega) m2 m3
    unfold errT at a4 a5
    (repeat' (first | (with_reducible first | intro hg | refine mv (by constructor) ?_) | ((with_reducible first | refine zR ?_ ?_ | refine zW mixed ?_ ?_); exact kr) | ((with_reducible apply zK); exact rfl; exact tf) | ((with_reducible apply zCD); exact rfl) | ((with_reducible apply zCN); exact rfl) | ((with_reducible apply zC); exact rfl) | ((with_reducible refine zX ?_ ?_); exact rfl) | ((with_reducible refine zE (And.intro ?_ ?_)); exact kr) | (with_reducible refine zE ?_) | ((with_reducible apply zP); (first | exact dp | exact oc rfl (w1) | exact oc rfl (w2))) | ((with_reducible apply zN); exact dn) | ((with_reducible apply zA); exact da) | ((with_reducible apply zS); exact ds) | ((with_reducible apply zY); exact rfl; exact rfl; exact tf) | ((with_reducible apply zG); exact rfl; exact rfl; exact tf) | ((with_reducible apply zU); exact rfl; exact rfl) | ((with_reducible apply zD); exact rfl; exact rfl) | ((with_reducible apply zB); exact rfl; exact rfl)))
    exact ⟨k + 1, hlt, by omega, (And.intro rfl (And.intro rfl (And.intro rfl (And.intro rfl (And.intro rfl trivial))))), (And.intro rfl (And.intro rfl trivial))⟩
  · have hkk : k = xs.length := Nat.le_antisymm hk (by omega)
    subst hkk
    (repeat' (first | (with_reducible first | intro hg | refine mv (by constructor) ?_) | ((with_reducible first | refine zR ?_ ?_ | refine zW mixed ?_ ?_); exact kr) | ((with_reducible apply zK); exact rfl; exact tf) | ((with_reducible apply zCD); exact rfl) | ((with_reducible apply zCN); exact rfl) | ((with_reducible apply zC); exact rfl) | ((with_reducible refine zX ?_ ?_); exact rfl) | ((with_reducible refine zE (And.intro ?_ ?_)); exact kr) | (with_reducible refine zE ?_) | ((with_reducible apply zP); exact dp) | ((with_reducible apply zN); exact dn) | ((with_reducible apply zA); exact da) | ((with_reducible apply zS); exact ds) | ((with_reducible apply zY); exact rfl; exact rfl; exact tf) | ((with_reducible apply zG); exact rfl; exact rfl; exact tf) | ((with_reducible apply zU); exact rfl; exact rfl) | ((with_reducible apply zD); exact rfl; exact rfl) | ((with_reducible apply zB); exact rfl; exact rfl)))
    ((with_reducible first | apply q_retR | apply q_retN); exact rl)
    rfl

end Go.Proofs.Ytgjhikjnlcbmkaa
