/- Walk: TopRollResidual, behind the strip. -/
import Derived.Test.YtocnbbjcfgfgdaaGreatDoorRw
set_option linter.unusedVariables false
set_option linter.unusedSimpArgs false
namespace Go.Proofs.YtocnbbjcfgfgdaaGreatDoor
open Go.RowKit
set_option maxRecDepth 20000
set_option maxHeartbeats 2000000

/-- The text behind the first n statements. -/
def dropSeq : Nat → Code → Code
  | 0, x => x
  | n + 1, .seq _ y => dropSeq n y
  | _, x => x
theorem residual_tail (n0 n1 : List UInt8) (p0 o0 p1 o1 re0 im0 re1 im1 h T : Int) (w0 : World) (ok : Nat → Prop) (hp0 : I64 p0) (hp1 : I64 p1) (s0 : (⟨n0.toArray⟩ : ByteArray).size ≤ 140737488355328) (s1 : (⟨n1.toArray⟩ : ByteArray).size ≤ 140737488355328)
    (e0 : drumErr ⟨n0.toArray⟩ p0 o0 = 0) (e1 : drumErr ⟨n1.toArray⟩ p1 o1 = 0) (two : p0 = 2 * p1) (a0 : ampErr re0 im0 = 0) (a1 : ampErr re1 im1 = 0) (c0 : re0.natAbs ≤ 1000 ∧ im0.natAbs ≤ 1000) (c1 : re1.natAbs ≤ 1000 ∧ im1.natAbs ≤ 1000) (hh : 0 ≤ h ∧ h ≤ 100000) (k : Nat) (hk1 : 2 * p0 ≤ k) (hk2 : (k : Int) ≤ 3 * p0)
    (zs : List Int) (hzs : zs = lst (fun j => h + wave p0 o0 re0 im0 (j : Nat) + wave p1 o1 re1 im1 (j : Nat)) k) :
    AWp Tryz.prog (ctx0 w0 ok Tryz.f4.ntmps) (dropSeq 12 (Tryz.f4.body.getD .skip)) (ARet Tryz.prog Tryz.f4.results.toList (B true))
      ⟨frL [(1, .ptr 1 0), (5, .ptr 5 0), (7, .ptr 7 0), (13, .d (isl zs))], memL [(1, ⟨38, millL n0 n1 p0 o0 p1 o1 re0 im0 re1 im1 h T⟩), (5, ⟨23, [T8 n0, I p0, I o0]⟩), (7, ⟨23, [T8 n1, I p1, I o1]⟩)]⟩ := by
  obtain ⟨hd0, _, q6⟩ := drum_ok e0
  obtain ⟨hd1, _, r6⟩ := drum_ok e1
  obtain ⟨q1, q2, q3, q4⟩ := id hd0
  obtain ⟨r1, r2, r3, r4⟩ := id hd1
  have bv : ∀ j : Nat, -1000 ≤ wave p0 o0 re0 im0 (j : Nat) ∧ wave p0 o0 re0 im0 (j : Nat) ≤ 1000 := fun j => wave_bnd (by omega) (by omega)
  have bw : ∀ j : Nat, -1000 ≤ wave p1 o1 re1 im1 (j : Nat) ∧ wave p1 o1 re1 im1 (j : Nat) ≤ 1000 := fun j => wave_bnd (by omega) (by omega)
  have lz : zs.length = k := by rw [hzs, lst_length]
  have nz : ∀ j, j < k → nth zs j = h + wave p0 o0 re0 im0 (j : Nat) + wave p1 o1 re1 im1 (j : Nat) := fun j hj => by rw [hzs, nth_lst _ hj]
  have hBz : Bnd 1000000 zs := fun x hx => by
    rw [hzs] at hx
    obtain ⟨j, hj, rfl⟩ := List.mem_map.1 hx
    rw [List.mem_range] at hj
    have := bv j
    have := bw j
    omega
  have be : ∀ {l : List Int} {nm : ByteArray} {p o : Int}, Bnd 1000000 l → l.length = k → drumErr nm p o = 0 → bothErr l nm p o = 0 := fun {l nm p o} hB hl he => by
    have hr : recErr l = 0 := by
      have h3 : l.any (fun n => !inR n (-1000000) 1000000) = false := by
        rw [List.any_eq_false]
        intro x hx
        rw [inR_true.2 (hB x hx)]; decide
      unfold recErr
      rw [decide_eq_false (by omega), decide_eq_false (by omega), h3]; rfl
    unfold bothErr
    rw [hr, he]; rfl
  have cz := copyInts_A zs (by omega)
  have st := steadyOf_ok zs ⟨n0.toArray⟩ p0 o0 s0 hp0 (by
    unfold steadyErr
    rw [be hBz lz e0, decide_eq_true (show p0 + p0 / 2 ≤ (zs.length : Int) by omega)]; rfl)
  obtain ⟨st1, st2⟩ := steady_of hd0 q6 re0 im0 h k (by omega) (fun j => wave p1 o1 re1 im1 (j : Nat)) (fun j => h + wave p0 o0 re0 im0 (j : Nat) + wave p1 o1 re1 im1 (j : Nat)) (fun j _ => by
    have e : ((j + (p0 / 2).toNat : Nat) : Int) = (j : Int) + p1 := by omega
    show wave p1 o1 re1 im1 ((j + (p0 / 2).toNat : Nat) : Int) = wave p1 o1 re1 im1 (j : Nat)
    rw [e, wave_turn]) fun _ _ => rfl
  rw [← hzs] at st1 st2
  rw [st1, st2] at st
  have wh0 := whole_A re0
  have wh1 := whole_A im0
  have ca := cancelled_ok zs ⟨n0.toArray⟩ p0 o0 re0 im0 s0 hp0 (by unfold cancErr; rw [be hBz lz e0, a0]; rfl)
  obtain ⟨ls, hls⟩ : ∃ ls, ls = lst (fun j => h + wave p1 o1 re1 im1 (j : Nat)) k := ⟨_, rfl⟩
  have ec : lst (canc zs p0 o0 re0 im0) zs.length = ls := by
    rw [hls, lz]
    refine lst_congr fun j hj => ?_
    unfold canc
    rw [nz j hj]; omega
  rw [ec] at ca
  have ll : ls.length = k := by rw [hls, lst_length]
  have nl : ∀ j, j < k → nth ls j = h + wave p1 o1 re1 im1 (j : Nat) := fun j hj => by rw [hls, nth_lst _ hj]
  have hBl : Bnd 1000000 ls := fun x hx => by
    rw [hls] at hx
    obtain ⟨j, hj, rfl⟩ := List.mem_map.1 hx
    rw [List.mem_range] at hj
    have := bw j
    omega
  have cl := copyInts_A ls (by omega)
  have ne := nearestO_ok ls ⟨n1.toArray⟩ p1 o1 s1 hp1 (by
    unfold turnErr
    rw [be hBl ll e1, decide_eq_true (show p1 ≤ (ls.length : Int) by omega)]; rfl)
  obtain ⟨ne1, ne2⟩ := nearest_of hd1 r6 re1 im1 h k (by omega) (fun j => h + wave p1 o1 re1 im1 (j : Nat)) fun _ _ => rfl
  rw [← hls] at ne1 ne2
  rw [ne1, ne2] at ne
  have cb := cancelled_ok ls ⟨n1.toArray⟩ p1 o1 re1 im1 s1 hp1 (by unfold cancErr; rw [be hBl ll e1, a1]; rfl)
  obtain ⟨la, hla⟩ : ∃ la, la = lst (fun _ => h) k := ⟨_, rfl⟩
  have ed : lst (canc ls p1 o1 re1 im1) ls.length = la := by
    rw [hla, ll]
    refine lst_congr fun j hj => ?_
    unfold canc
    rw [nl j hj]; omega
  rw [ed] at cb
  have lla : la.length = k := by rw [hla, lst_length]
  have nla : ∀ j, j < k → nth la j = h := fun j hj => by rw [hla, nth_lst _ hj]
  clear hzs hls hla st1 st2 ne1 ne2 ec ed bv bw nz nl be hBz hBl e0 e1 a0 a1 c0 c1 hd0 hd1 q6 r6 s0 s1 hp0 hp1
  show AWp _ _ (Code.seq _ _) _ _
  (repeat' (first | (with_reducible first | intro hg | refine mv (by constructor) ?_) | ((with_reducible first | refine zR ?_ ?_ | refine zW mixed ?_ ?_); exact kr) | ((with_reducible apply zK); exact rfl; exact tf) | ((with_reducible apply zCD); exact rfl) | ((with_reducible apply zCN); exact rfl) | ((with_reducible apply zC); exact rfl) | ((with_reducible refine zX ?_ ?_); exact rfl) | ((with_reducible refine zE (And.intro ?_ ?_)); exact kr) | (with_reducible refine zE ?_) | ((with_reducible apply zP); (first | exact o_neqS rfl rfl rfl rfl | exact dp | exact oc rfl (cz) | exact oc rfl (st) | exact oc rfl (wh0) | exact oc rfl (wh1) | exact oc rfl (ca) | exact oc rfl (cl) | exact oc rfl (ne) | exact oc rfl (cb))) | ((with_reducible apply zN); exact dn) | ((with_reducible apply zA); exact da) | ((with_reducible apply zS); exact ds) | ((with_reducible apply zY); exact rfl; exact rfl; exact tf) | ((with_reducible apply zG); exact rfl; exact rfl; exact tf) | ((with_reducible apply zU); exact rfl; exact rfl) | ((with_reducible apply zD); exact rfl; exact rfl) | ((with_reducible apply zB); exact rfl; exact rfl)))
  refine awp_loopL (α := Nat) (fun j => [(1, .ptr 1 0), (21, .d (isl la)), (23, .d (I j))]) (fun _ => [(1, ⟨38, millL n0 n1 p0 o0 p1 o1 re0 im0 re1 im1 h T⟩)])
    (fun j => j ≤ k) (fun j => k - j) 0 (Nat.zero_le _) (And.intro rfl (And.intro rfl (And.intro rfl trivial))) (And.intro rfl trivial) fun j hj => ?_
  by_cases hjk : j < k
  · have hjl : j < la.length := by omega
    have hjn := nla j hjk
    (repeat' (first | (with_reducible first | intro hg | refine mv (by constructor) ?_) | ((with_reducible first | refine zR ?_ ?_ | refine zW mixed ?_ ?_); exact kr) | ((with_reducible apply zK); exact rfl; exact tf) | ((with_reducible apply zCD); exact rfl) | ((with_reducible apply zCN); exact rfl) | ((with_reducible apply zC); exact rfl) | ((with_reducible refine zX ?_ ?_); exact rfl) | ((with_reducible refine zE (And.intro ?_ ?_)); exact kr) | (with_reducible refine zE ?_) | ((with_reducible apply zP); exact dp) | ((with_reducible apply zN); exact dn) | ((with_reducible apply zA); exact da) | ((with_reducible apply zS); exact ds) | ((with_reducible apply zY); exact rfl; exact rfl; exact tf) | ((with_reducible apply zG); exact rfl; exact rfl; exact tf) | ((with_reducible apply zU); exact rfl; exact rfl) | ((with_reducible apply zD); exact rfl; exact rfl) | ((with_reducible apply zB); exact rfl; exact rfl)))
    exact ⟨j + 1, hjk, by omega, (And.intro rfl (And.intro rfl (And.intro rfl trivial))), (And.intro rfl trivial)⟩
  have hjl : ¬ j < la.length := by omega
  (repeat' (first | (with_reducible first | intro hg | refine mv (by constructor) ?_) | ((with_reducible first | refine zR ?_ ?_ | refine zW mixed ?_ ?_); exact kr) | ((with_reducible apply zK); exact rfl; exact tf) | ((with_reducible apply zCD); exact rfl) | ((with_reducible apply zCN); exact rfl) | ((with_reducible apply zC); exact rfl) | ((with_reducible refine zX ?_ ?_); exact rfl) | ((with_reducible refine zE (And.intro ?_ ?_)); exact kr) | (with_reducible refine zE ?_) | ((with_reducible apply zP); exact dp) | ((with_reducible apply zN); exact dn) | ((with_reducible apply zA); exact da) | ((with_reducible apply zS); exact ds) | ((with_reducible apply zY); exact rfl; exact rfl; exact tf) | ((with_reducible apply zG); exact rfl; exact rfl; exact tf) | ((with_reducible apply zU); exact rfl; exact rfl) | ((with_reducible apply zD); exact rfl; exact rfl) | ((with_reducible apply zB); exact rfl; exact rfl)))
  ((with_reducible first | apply q_retR | apply q_retN); exact rl)
  rfl

end Go.Proofs.YtocnbbjcfgfgdaaGreatDoor
