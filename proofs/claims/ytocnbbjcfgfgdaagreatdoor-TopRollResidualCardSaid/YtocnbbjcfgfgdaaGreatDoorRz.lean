/- Walk: TopRollResidual, where all is as asked. -/
import Derived.Test.YtocnbbjcfgfgdaaGreatDoorRy
set_option linter.unusedVariables false
set_option linter.unusedSimpArgs false
namespace Go.Proofs.YtocnbbjcfgfgdaaGreatDoor
open Go.RowKit
set_option maxRecDepth 20000
set_option maxHeartbeats 4000000

theorem residual_good (n0 n1 : List UInt8) (p0 o0 p1 o1 re0 im0 re1 im1 h T : Int) (hp0 : I64 p0) (ho0 : I64 o0) (hp1 : I64 p1) (ho1 : I64 o1) (s0 : (⟨n0.toArray⟩ : ByteArray).size ≤ 140737488355328) (s1 : (⟨n1.toArray⟩ : ByteArray).size ≤ 140737488355328)
    (e0 : drumErr ⟨n0.toArray⟩ p0 o0 = 0) (e1 : drumErr ⟨n1.toArray⟩ p1 o1 = 0) (two : p0 = 2 * p1) (a0 : ampErr re0 im0 = 0) (a1 : ampErr re1 im1 = 0) (g0 : max (re0.natAbs : Int) im0.natAbs ≤ 1000) (g1 : max (re1.natAbs : Int) im1.natAbs ≤ 1000) (hh : 0 ≤ h ∧ h ≤ 100000) (tt : 2 ≤ T ∧ T ≤ 3) :
    AC Tryz.prog 4 [.agg (millL n0 n1 p0 o0 p1 o1 re0 im0 re1 im1 h T)] (B true) := by
  have sh := rollShown_A
  have d0 := bDrum_A ⟨n0.toArray⟩ p0 o0 s0
  have d1 := bDrum_A ⟨n1.toArray⟩ p1 o1 s1
  have am0 := bampErr_A re0 im0
  have am1 := bampErr_A re1 im1
  rw [e0] at d0
  rw [e1] at d1
  rw [a0] at am0
  rw [a1] at am1
  obtain ⟨⟨q1, q2, q3, q4⟩, _, _⟩ := drum_ok e0
  obtain ⟨⟨r1, r2, r3, r4⟩, _, _⟩ := drum_ok e1
  have b0 := amp_ok a0
  have b1 := amp_ok a1
  have gp0 := gpart_A re0 im0 ⟨by omega, by omega⟩ ⟨by omega, by omega⟩
  have gp1 := gpart_A re1 im1 ⟨by omega, by omega⟩ ⟨by omega, by omega⟩
  have c0 : re0.natAbs ≤ 1000 ∧ im0.natAbs ≤ 1000 := by omega
  have c1 : re1.natAbs ≤ 1000 ∧ im1.natAbs ≤ 1000 := by omega
  have wh := bwithin_A h 0 100000
  have wt := bwithin_A T 2 3
  rw [inR_true.2 hh] at wh
  rw [inR_true.2 tt] at wt
  obtain ⟨f0, f0a, f0b⟩ := fmt_prs e0 hp0 ho0
  obtain ⟨f1, f1a, f1b⟩ := fmt_prs e1 hp1 ho1
  have hNb : 2 * p0 ≤ T * p0 ∧ T * p0 ≤ 3 * p0 := ⟨Int.mul_le_mul_of_nonneg_right (by omega) (by omega), Int.mul_le_mul_of_nonneg_right (by omega) (by omega)⟩
  obtain ⟨N, hN⟩ : ∃ N : Nat, T * p0 = N := ⟨(T * p0).toNat, (Int.toNat_of_nonneg (Int.mul_nonneg (by omega) (by omega))).symm⟩
  rw [hN] at hNb
  obtain ⟨hN1, hN2⟩ := hNb
  have wv := waveOf_good (N := N) (z := T * p0) e0 a0 s0 hp0 hN (by omega)
  have ww := waveOf_good (N := N) (z := T * p0) e1 a1 s1 hp1 hN (by omega)
  have tl := fun w0 ok zs hzs => residual_tail n0 n1 p0 o0 p1 o1 re0 im0 re1 im1 h T w0 ok hp0 hp1 s0 s1 e0 e1 two a0 a1 c0 c1 hh N hN1 hN2 zs hzs
  obtain ⟨v, hv⟩ : ∃ v, v = lst (fun k => wave p0 o0 re0 im0 (k : Nat)) N := ⟨_, rfl⟩
  obtain ⟨w, hw⟩ : ∃ w, w = lst (fun k => wave p1 o1 re1 im1 (k : Nat)) N := ⟨_, rfl⟩
  rw [← hv] at wv
  rw [← hw] at ww
  have lv : v.length = N := by rw [hv, lst_length]
  have lw : w.length = N := by rw [hw, lst_length]
  have nv : ∀ k, k < N → nth v k = wave p0 o0 re0 im0 (k : Nat) := fun k hk => by rw [hv, nth_lst _ hk]
  have nw : ∀ k, k < N → nth w k = wave p1 o1 re1 im1 (k : Nat) := fun k hk => by rw [hw, nth_lst _ hk]
  have bv : ∀ k, k < N → -1000 ≤ nth v k ∧ nth v k ≤ 1000 := fun k hk => by rw [nv k hk]; exact wave_bnd (by omega) (by omega)
  have bw : ∀ k, k < N → -1000 ≤ nth w k ∧ nth w k ≤ 1000 := fun k hk => by rw [nw k hk]; exact wave_bnd (by omega) (by omega)
  generalize max (re0.natAbs : Int) im0.natAbs = G0 at gp0 g0
  generalize max (re1.natAbs : Int) im1.natAbs = G1 at gp1 g1
  clear hv hw b0 b1 c0 c1 e0 e1 a0 a1 s0 s1 hp0 hp1 ho0 ho1
  refine ac_body Tryz.func4 rfl (by kernel_rfl) fun w0 ok => ?_; show AWp _ (ctx0 w0 ok _) _ (ARet _ _ _) (entry _)
  (repeat' (first | (with_reducible first | intro hg | refine mv (by constructor) ?_) | ((with_reducible first | refine zR ?_ ?_ | refine zW mixed ?_ ?_); exact kr) | ((with_reducible apply zK); exact rfl; exact tf) | ((with_reducible apply zCD); exact rfl) | ((with_reducible apply zCN); exact rfl) | ((with_reducible apply zC); exact rfl) | ((with_reducible refine zX ?_ ?_); exact rfl) | ((with_reducible refine zE (And.intro ?_ ?_)); exact kr) | (with_reducible refine zE ?_) | ((with_reducible apply zP); (first | exact o_neqDs rfl rfl | exact dp | exact oc rfl (sh) | exact oc rfl (d0) | exact oc rfl (d1) | exact oc rfl (am0) | exact oc rfl (am1) | exact oc rfl (gp0) | exact oc rfl (gp1) | exact oc rfl (wh) | exact oc rfl (wt) | exact oc rfl (f0a) | exact oc rfl (f0b) | exact oc rfl (f1a) | exact oc rfl (f1b) | exact oc rfl (wv) | exact oc rfl (ww))) | ((with_reducible apply zN); exact dn) | ((with_reducible apply zA); exact da) | ((with_reducible apply zS); exact ds) | ((with_reducible apply zY); exact rfl; exact rfl; exact tf) | ((with_reducible apply zG); exact rfl; exact rfl; exact tf) | ((with_reducible apply zU); exact rfl; exact rfl) | ((with_reducible apply zD); exact rfl; exact rfl) | ((with_reducible apply zB); exact rfl; exact rfl)))
  clear sh d0 d1 am0 am1 gp0 gp1 wh wt f0a f0b f1a f1b wv ww g0 g1 two hN hN1 tt q3 q4 r1 r2 r3 r4
  have lN : N ≤ 192 := by omega
  clear hN2 q1 q2
  refine awp_loopL (α := Nat) (fun k => [(1, .ptr 1 0), (5, .ptr 5 0), (7, .ptr 7 0), (9, .d (isl v)), (11, .d (isl w)), (13, ownS 199 k), (14, .d (I k))]) (fun k => (1, ⟨38, millL n0 n1 p0 o0 p1 o1 re0 im0 re1 im1 h T⟩) :: (5, ⟨23, [T8 n0, I p0, I o0]⟩) :: (7, ⟨23, [T8 n1, I p1, I o1]⟩) :: ownM 199 3 (ivs (lst (fun k => h + nth v k + nth w k) k)) k)
    (fun k => k ≤ N) (fun k => N - k) 0 (Nat.zero_le _) (And.intro rfl (And.intro rfl (And.intro rfl (And.intro rfl (And.intro rfl (And.intro rfl (And.intro rfl trivial))))))) (And.intro rfl (And.intro rfl (And.intro rfl trivial))) fun k hk => ?_
  by_cases hlt : k < N
  · have hltv : k < v.length := by omega
    have hltw : k < w.length := by omega
    have xv := bv k hlt
    have xw := bw k hlt
    have wx := bwithin_A (nth v k) (-1000) 1000
    have wy := bwithin_A (nth w k) (-1000) 1000
    rw [inR_true.2 xv] at wx
    rw [inR_true.2 xw] at wy
    clear bv bw nv nw tl
    rcases k with _ | k
    · (repeat' (first | (with_reducible first | intro hg | refine mv (by constructor) ?_) | ((with_reducible first | refine zR ?_ ?_ | refine zW mixed ?_ ?_); exact kr) | ((with_reducible apply zK); exact rfl; exact tf) | ((with_reducible apply zCD); exact rfl) | ((with_reducible apply zCN); exact rfl) | ((with_reducible apply zC); exact rfl) | ((with_reducible refine zX ?_ ?_); exact rfl) | ((with_reducible refine zE (And.intro ?_ ?_)); exact kr) | (with_reducible refine zE ?_) | ((with_reducible apply zP); (first | exact dp | exact oc rfl (wx) | exact oc rfl (wy))) | ((with_reducible apply zN); exact dn) | ((with_reducible apply zA); exact da) | ((with_reducible apply zS); exact ds) | ((with_reducible apply zY); exact rfl; exact rfl; exact tf) | ((with_reducible apply zG); exact rfl; exact rfl; exact tf) | ((with_reducible apply zU); exact rfl; exact rfl) | ((with_reducible apply zD); exact rfl; exact rfl) | ((with_reducible apply zB); exact rfl; exact rfl)))
      exact ⟨1, hlt, by omega, (And.intro rfl (And.intro rfl (And.intro rfl (And.intro rfl (And.intro rfl (And.intro rfl (And.intro rfl trivial))))))), (And.intro rfl (And.intro rfl (And.intro rfl (And.intro rfl trivial))))⟩
    · (repeat' (first | (with_reducible first | intro hg | refine mv (by constructor) ?_) | ((with_reducible first | refine zR ?_ ?_ | refine zW mixed ?_ ?_); exact kr) | ((with_reducible apply zK); exact rfl; exact tf) | ((with_reducible apply zCD); exact rfl) | ((with_reducible apply zCN); exact rfl) | ((with_reducible apply zC); exact rfl) | ((with_reducible refine zX ?_ ?_); exact rfl) | ((with_reducible refine zE (And.intro ?_ ?_)); exact kr) | (with_reducible refine zE ?_) | ((with_reducible apply zP); (first | exact dp | exact oc rfl (wx) | exact oc rfl (wy))) | ((with_reducible apply zN); exact dn) | ((with_reducible apply zA); exact da) | ((with_reducible apply zS); exact ds) | ((with_reducible apply zY); exact rfl; exact rfl; exact tf) | ((with_reducible apply zG); exact rfl; exact rfl; exact tf) | ((with_reducible apply zU); exact rfl; exact rfl) | ((with_reducible apply zD); exact rfl; exact rfl) | ((with_reducible apply zB); exact rfl; exact rfl)))
      exact ⟨k + 2, hlt, by omega, (And.intro rfl (And.intro rfl (And.intro rfl (And.intro rfl (And.intro rfl (And.intro rfl (And.intro rfl trivial))))))), (And.intro rfl (And.intro rfl (And.intro rfl (And.intro (blk_snoc _ _ _ rfl) trivial))))⟩
  obtain rfl : k = N := by omega
  have hkl : ¬ k < v.length := by omega
  have tl := tl w0 ok _ rfl
  rw [← lst_congr (n := k) (f := fun k => h + nth v k + nth w k) fun j hj => by rw [nv j hj, nw j hj]] at tl
  clear nv nw bv bw
  refine awp_own 13 199 (t := 3) (fun k => h + nth v k + nth w k) rfl (fun j hj => by rw [hj]; rfl) ?_
  generalize lst (fun k => h + nth v k + nth w k) k = zs at *
  refine awp_cut [(1, .ptr 1 0), (5, .ptr 5 0), (7, .ptr 7 0), (9, .d (isl v)), (13, .d (isl zs)), (14, .d (I k))] [(1, ⟨38, millL n0 n1 p0 o0 p1 o1 re0 im0 re1 im1 h T⟩), (5, ⟨23, [T8 n0, I p0, I o0]⟩), (7, ⟨23, [T8 n1, I p1, I o1]⟩)] (And.intro rfl (And.intro rfl (And.intro rfl (And.intro rfl (And.intro rfl (And.intro rfl trivial)))))) (And.intro rfl (And.intro rfl (And.intro rfl trivial))) ?_
  (repeat' ((fail_if_success (with_reducible show AWp _ _ (.seq (.region 21 _ _) _) _ _)); (first | (with_reducible first | intro hg | refine mv (by constructor) ?_) | ((with_reducible first | refine zR ?_ ?_ | refine zW mixed ?_ ?_); exact kr) | ((with_reducible apply zK); exact rfl; exact tf) | ((with_reducible apply zCD); exact rfl) | ((with_reducible apply zCN); exact rfl) | ((with_reducible apply zC); exact rfl) | ((with_reducible refine zX ?_ ?_); exact rfl) | ((with_reducible refine zE (And.intro ?_ ?_)); exact kr) | (with_reducible refine zE ?_) | ((with_reducible apply zP); exact dp) | ((with_reducible apply zN); exact dn) | ((with_reducible apply zA); exact da) | ((with_reducible apply zS); exact ds) | ((with_reducible apply zY); exact rfl; exact rfl; exact tf) | ((with_reducible apply zG); exact rfl; exact rfl; exact tf) | ((with_reducible apply zU); exact rfl; exact rfl) | ((with_reducible apply zD); exact rfl; exact rfl) | ((with_reducible apply zB); exact rfl; exact rfl))))
  refine awp_weaken (le_of (l := [(1, .ptr 1 0), (5, .ptr 5 0), (7, .ptr 7 0), (13, .d (isl zs))]) (m := [(1, ⟨38, millL n0 n1 p0 o0 p1 o1 re0 im0 re1 im1 h T⟩), (5, ⟨23, [T8 n0, I p0, I o0]⟩), (7, ⟨23, [T8 n1, I p1, I o1]⟩)]) (And.intro rfl (And.intro rfl (And.intro rfl (And.intro rfl trivial)))) (And.intro rfl (And.intro rfl (And.intro rfl trivial)))) tl

end Go.Proofs.YtocnbbjcfgfgdaaGreatDoor
