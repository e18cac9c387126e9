/- Norms, their reference, and which proofs settle. -/
import Derived.Test.YtiabcffcbhlbiaaGreatSj
import Derived.Test.YtiabcffcbhlbiaaGreatSt
set_option linter.unusedVariables false
set_option linter.unusedSimpArgs false
namespace Go.Proofs.YtiabcffcbhlbiaaGreat
open Go.RowKit
set_option maxRecDepth 20000
set_option maxHeartbeats 8000000

def prE (c : List Rg) (den s : Int) (w : List Int) : Int := fst0 [loE c den, unl (inR s 1 6) 2, unl (decide ((w.length : Int) = (c.length : Int))) 10, unl (!w.any fun n => !inR n 1 10) 2]
theorem prE_eq {c : List Rg} {den s : Int} {w : List Int} (h : loE c den = 0) : prE c den s w = pfE c s w := by
  unfold prE pfE
  rw [h]; rfl
theorem proofErr_A (c : List Rg) (den s : Int) (w : List Int) (hm : c.length ≤ 140737488355328) (hw : w.length ≤ 140737488355328) : AC Tryz.prog 78 [loV c den, .agg (prI s w)] (I (prE c den s w)) := by
  have w1 := checkLoop_A c den hm
  have w2 := containsFunc_A 122 (EntI.eq (P := Tryz.prog) (f := 122)) .val (fun n => !inR n 1 10) w hw (fun x _ => prf1_A x)
  have w3 := within_A s 1 6
  have w4 := first4_A (loE c den) (unl (inR s 1 6) 2) (unl (decide ((w.length : Int) = (c.length : Int))) 10) (unl (!w.any fun n => !inR n 1 10) 2)
  refine ac_body Tryz.func78 rfl (by kernel_rfl) fun w0 ok => ?_; show AWp _ (ctx0 w0 ok _) _ (ARet _ _ _) (entry _)
  (repeat' (first | (with_reducible first | intro hg | refine mv (by constructor) ?_) | ((with_reducible first | refine zR ?_ ?_ | refine zW mixed ?_ ?_); exact kr) | ((with_reducible apply zK); exact rfl; exact tf) | ((with_reducible apply zCD); exact rfl) | ((with_reducible apply zCN); exact rfl) | ((with_reducible apply zC); exact rfl) | ((with_reducible refine zX ?_ ?_); exact rfl) | ((with_reducible refine zE (And.intro ?_ ?_)); exact kr) | (with_reducible refine zE ?_) | ((with_reducible apply zP); (first | exact dp | exact oc rfl (w1) | exact oc rfl (w2) | exact oc rfl (w3) | exact oc rfl (w4) | exact oc rfl (unless_A _ _))) | ((with_reducible apply zN); exact dn) | ((with_reducible apply zA); exact da) | ((with_reducible apply zS); exact ds) | ((with_reducible apply zY); exact rfl; exact rfl; exact tf) | ((with_reducible apply zG); exact rfl; exact rfl; exact tf) | ((with_reducible apply zU); exact rfl; exact rfl) | ((with_reducible apply zD); exact rfl; exact rfl) | ((with_reducible apply zB); exact rfl; exact rfl)))
  ((with_reducible first | apply q_retR | apply q_retN); exact rl)
  rfl
/-- The norm of a proof. -/
def nrm (c : List Rg) (den : Int) (s : Nat) (w : List Int) : Rat := nrmR (powM c den c.length s) w (den ^ s) c.length c.length
theorem row_bnds {c : List Rg} {den : Int} (h : LoopOk c den) {s : Nat} {w : List Int} (hp : PrfOk c.length s w) : (∀ i, i < c.length → (rowS (powM c den c.length s) w i c.length).natAbs ≤ 100000000000 ∧ 0 < nth w i * den ^ s ∧ nth w i * den ^ s ≤ 10000000) := fun i hi => by
  have hb := powM_bnd h s
  have h30 := pow30 hp.s6
  have hdp := pow_den6 h.d hp.s6
  have h3 := h.l3
  have hwl := hp.l
  obtain ⟨r1, r2⟩ := rowS_bnd hb (w := w) hp.nth i c.length
  have hm : c.length * (30 ^ s * 10) ≤ 3 * (30 ^ s * 10) := Nat.mul_le_mul_right _ h3
  have hw := hp.w _ (nth_mem (xs := w) (k := i) (by omega))
  have k1 : 0 < nth w i * den ^ s := Int.mul_pos (by omega) (by omega)
  have k2 : nth w i * den ^ s ≤ 10 * 1000000 := Int.mul_le_mul hw.2 hdp.2 (by omega) (by decide)
  omega
theorem nrmR_ratS {M : Mx} {w : List Int} {dq : Int} {n : Nat} (h : ∀ i, i < n → (rowS M w i n).natAbs ≤ 100000000000 ∧ 0 < nth w i * dq ∧ nth w i * dq ≤ 10000000) : ∀ i, i ≤ n → RatS 3 (nrmR M w dq n i)
  | 0, _ => int_ratS (n := 0) (by decide)
  | i + 1, hi => by
    have ih := nrmR_ratS h i (by omega)
    obtain ⟨h1, h2, h3⟩ := h i (by omega)
    have hd := divInt_ratS (a := rowS M w i n) (b := nth w i * dq) (by omega) h2 (by omega)
    unfold nrmR
    cases decide (nrmR M w dq n i < Rat.divInt (rowS M w i n) (nth w i * dq))
    · exact ih
    · exact hd
theorem nrm_ratS {c : List Rg} {den : Int} (h : LoopOk c den) {s : Nat} {w : List Int} (hp : PrfOk c.length s w) : RatS 3 (nrm c den s w) := nrmR_ratS (row_bnds h hp) _ (Nat.le_refl _)
theorem nrm_bnd {c : List Rg} {den : Int} (h : LoopOk c den) {s : Nat} {w : List Int} (hp : PrfOk c.length s w) : (nrm c den s w).num.natAbs ≤ 100000000000 ∧ ((nrm c den s w).den : Int) ≤ 10000000 := by
  have h1 := normF_SmF (row_bnds h hp) c.length (Nat.le_refl _)
  rw [normF_eq (fun i hi => (row_bnds h hp i hi).2.1) c.length (Nat.le_refl _)] at h1
  exact ⟨h1.1, h1.2.2⟩
theorem norm_q (c : List Rg) (den : Int) (h : LoopOk c den) (s : Nat) (w : List Int) (hp : PrfOk c.length s w) : AC Tryz.prog 79 [loV c den, .agg (prfC s w)] (F2 (qF (nrm c den s w))) := by
  have h1 := norm_A c den h s w hp
  rw [normF_eq (fun i hi => (row_bnds h hp i hi).2.1) c.length (Nat.le_refl _)] at h1
  exact h1
theorem pfE_ok {c : List Rg} {s : Int} {w : List Int} (h : pfE c s w = 0) : ∃ k : Nat, s = k ∧ PrfOk c.length k w := by
  obtain ⟨k1, h2⟩ := fst0_cons h
  obtain ⟨k2, h3⟩ := fst0_cons h2
  rw [fst0_one] at h3
  have k1 := inR_true.1 (unl_ok (by decide) k1)
  have k2 := of_decide_eq_true (unl_ok (by decide) k2)
  have k3 := all_of_any (unl_ok (by decide) h3)
  exact ⟨s.toNat, by omega, by omega, by omega, by omega, fun x hx => inR_true.1 (k3 x hx)⟩
theorem settles_q (r : Rat) : AC Tryz.prog 80 [F2 (qF r)] (B (decide (r < 1))) := by
  have h := settles_A (qF r)
  rwa [show decide ((qF r).1 < (qF r).2) = decide (r < 1) from decide_eq_decide.2 (lt_one_iff r).symm] at h
/-! The reference. -/
theorem qnorm_A (c : List Rg) (den : Int) (h : LoopOk c den) (s : Nat) (w : List Int) (hp : PrfOk c.length s w) : AC Tryz.prog 83 [loV c den, .agg (prfC s w)] (ratV (nrm c den s w)) := by
  have wp := qpowerOf_A c den h s hp.s6
  have wr1 := qpower_A den h.d s hp.s6
  have hne := row_bnds h hp
  have hnS := nrmR_ratS hne
  have hb := powM_bnd h s
  have h30 := pow30 hp.s6
  have hdp := pow_den6 h.d hp.s6
  have h3 := h.l3
  have hwl := hp.l
  have hrow := fun i j => rowS_bnd hb (w := w) hp.nth i j
  have hmk : ∀ i, i < c.length → (mkL c.length (powM c den c.length s)).getD i [] = lsR (powM c den c.length s i) c.length := fun i hi => mkL_row _ hi
  have hml := mkL_len c.length (powM c den c.length s)
  have z0 := ratioInt_A 0 ⟨by decide, by decide⟩
  show AC _ _ _ (ratV (nrmR (powM c den c.length s) w (den ^ s) c.length c.length))
  generalize hPM : powM c den c.length s = M at *
  generalize hdp2 : den ^ s = dq at *
  refine ac_body Tryz.func83 rfl (by kernel_rfl) fun w0 ok => ?_; show AWp _ (ctx0 w0 ok _) _ (ARet _ _ _) (entry _)
  (repeat' (first | (with_reducible first | intro hg | refine mv (by constructor) ?_) | ((with_reducible first | refine zR ?_ ?_ | refine zW mixed ?_ ?_); exact kr) | ((with_reducible apply zK); exact rfl; exact tf) | ((with_reducible apply zCD); exact rfl) | ((with_reducible apply zCN); exact rfl) | ((with_reducible apply zC); exact rfl) | ((with_reducible refine zX ?_ ?_); exact rfl) | ((with_reducible refine zE (And.intro ?_ ?_)); exact kr) | (with_reducible refine zE ?_) | ((with_reducible apply zP); (first | exact dp | exact oc rfl (wp) | exact oc rfl (z0))) | ((with_reducible apply zN); exact dn) | ((with_reducible apply zA); exact da) | ((with_reducible apply zS); exact ds) | ((with_reducible apply zY); exact rfl; exact rfl; exact tf) | ((with_reducible apply zG); exact rfl; exact rfl; exact tf) | ((with_reducible apply zU); exact rfl; exact rfl) | ((with_reducible apply zD); exact rfl; exact rfl) | ((with_reducible apply zB); exact rfl; exact rfl)))
  refine awp_loopL (α := Nat) (fun i => [(2, .ptr 2 0), (3, .ptr 3 0), (4, .ptr 4 0), (5, .d (mxV (mkL c.length M))), (6, .ptr 6 0), (7, .d (I i))]) (fun i => [(2, ⟨24, [rgV c, I den]⟩), (3, ⟨54, prfC s w⟩), (4, ⟨78, [I 0, nilV, I 0, nilV]⟩), (6, ⟨78, ratC (nrmR M w dq c.length i)⟩)]) (fun i => i ≤ c.length) (fun i => c.length - i) 0 (Nat.zero_le _) (And.intro rfl (And.intro rfl (And.intro rfl (And.intro rfl (And.intro rfl (And.intro rfl trivial)))))) (And.intro rfl (And.intro rfl (And.intro rfl (And.intro rfl trivial)))) fun i hi => ?_
  by_cases hin : i < c.length
  rotate_left
  · obtain rfl : i = c.length := by omega
    exact zF
  have hrwi := hmk i hin
  have hrl : ((mkL c.length M).getD i []).length = c.length := by rw [hrwi, lsR_length]
  (repeat' (first | (with_reducible first | intro hg | refine mv (by constructor) ?_) | ((with_reducible first | refine zR ?_ ?_ | refine zW mixed ?_ ?_); exact kr) | ((with_reducible apply zK); exact rfl; exact tf) | ((with_reducible apply zCD); exact rfl) | ((with_reducible apply zCN); exact rfl) | ((with_reducible apply zC); exact rfl) | ((with_reducible refine zX ?_ ?_); exact rfl) | ((with_reducible refine zE (And.intro ?_ ?_)); exact kr) | (with_reducible refine zE ?_) | ((with_reducible apply zP); exact dp) | ((with_reducible apply zN); exact dn) | ((with_reducible apply zA); exact da) | ((with_reducible apply zS); exact ds) | ((with_reducible apply zY); exact rfl; exact rfl; exact tf) | ((with_reducible apply zG); exact rfl; exact rfl; exact tf) | ((with_reducible apply zU); exact rfl; exact rfl) | ((with_reducible apply zD); exact rfl; exact rfl) | ((with_reducible apply zB); exact rfl; exact rfl)))
  refine awp_loopL (α := Nat) (fun j => [(2, .ptr 2 0), (3, .ptr 3 0), (4, .ptr 4 0), (5, .d (mxV (mkL c.length M))), (6, .ptr 6 0), (7, .d (I i)), (8, .d (I (rowS M w i j))), (9, .d (I j))]) (fun _ => [(2, ⟨24, [rgV c, I den]⟩), (3, ⟨54, prfC s w⟩), (4, ⟨78, [I 0, nilV, I 0, nilV]⟩), (6, ⟨78, ratC (nrmR M w dq c.length i)⟩)]) (fun j => j ≤ c.length) (fun j => c.length - j) 0 (Nat.zero_le _) (And.intro rfl (And.intro rfl (And.intro rfl (And.intro rfl (And.intro rfl (And.intro rfl (And.intro rfl (And.intro rfl trivial)))))))) (And.intro rfl (And.intro rfl (And.intro rfl (And.intro rfl trivial)))) fun j hj => ?_
  by_cases hjn : j < c.length
  · have he : ((mkL c.length M).getD i []).getD j rg0 = M i j := by rw [hrwi, lsR_get _ hjn]
    have hr := hrow i j
    have hr2 := hrow i (j + 1)
    have hj1 : j * (30 ^ s * 10) ≤ 3 * (30 ^ s * 10) := Nat.mul_le_mul_right _ (by omega)
    have hj2 : (j + 1) * (30 ^ s * 10) ≤ 3 * (30 ^ s * 10) := Nat.mul_le_mul_right _ (by omega)
    obtain ⟨b1, b2⟩ := hb i j
    have hwj := hp.w _ (nth_mem (xs := w) (k := j) (by omega))
    have hs1 : rowS M w i (j + 1) = rowS M w i j + max ((M i j).1.natAbs : Int) ((M i j).2.natAbs : Int) * nth w j := rfl
    have z1 := bsize_A (M i j).1 ⟨by omega, by omega⟩
    have z2 := bsize_A (M i j).2 ⟨by omega, by omega⟩
    rw [← he] at hs1 b1 b2 z1 z2
    generalize 30 ^ s = K at *
    have hr3 : 0 ≤ rowS M w i j ∧ rowS M w i j ≤ 100000000000 := by omega
    have hr4 : 0 ≤ rowS M w i (j + 1) ∧ rowS M w i (j + 1) ≤ 100000000000 := by omega
    clear hr hr2 hj1 hj2 hrow hne hnS hmk hb he wp wr1 z0 hdp
    generalize rowS M w i j = S0 at *
    (repeat' (first | (with_reducible first | intro hg | refine mv (by constructor) ?_) | ((with_reducible first | refine zR ?_ ?_ | refine zW mixed ?_ ?_); exact kr) | ((with_reducible apply zK); exact rfl; exact tf) | ((with_reducible apply zCD); exact rfl) | ((with_reducible apply zCN); exact rfl) | ((with_reducible apply zC); exact rfl) | ((with_reducible refine zX ?_ ?_); exact rfl) | ((with_reducible refine zE (And.intro ?_ ?_)); exact kr) | (with_reducible refine zE ?_) | ((with_reducible apply zP); (first | exact o_indexF [] (f := fun r => [rgV r]) (j := i) rw1_len (by decide) rfl rfl (by omega) rfl | exact o_indexF rg0 frC_len (by decide) rfl rfl (by omega) (by omega) | exact o_indexI (j := j) (xs := w) rfl rfl (by omega) rfl | exact dp | exact oc rfl (z1) | exact oc rfl (z2))) | ((with_reducible apply zN); exact dn) | ((with_reducible apply zA); exact da) | ((with_reducible apply zS); exact ds) | ((with_reducible apply zY); exact rfl; exact rfl; exact tf) | ((with_reducible apply zG); exact rfl; exact rfl; exact tf) | ((with_reducible apply zU); exact rfl; exact rfl) | ((with_reducible apply zD); exact rfl; exact rfl) | ((with_reducible apply zB); exact rfl; exact rfl)))
    exact ⟨j + 1, hjn, by omega, (And.intro rfl (And.intro rfl (And.intro rfl (And.intro rfl (And.intro rfl (And.intro rfl (And.intro (congrArg (fun n : Int => AV.d (I n)) hs1.symm) (And.intro (rfl) trivial)))))))), (And.intro rfl (And.intro rfl (And.intro rfl (And.intro rfl trivial))))⟩
  obtain rfl : j = c.length := by omega
  obtain ⟨n1, n2, n3⟩ := hne i hin
  have hS := hnS i (by omega)
  have y1 := ratioInt_A (rowS M w i c.length) ⟨by omega, by omega⟩
  have y2 := ratioInt_A (nth w i * dq) ⟨by omega, by omega⟩
  have q1 := int_ratS (n := rowS M w i c.length) (by omega)
  have q2 := int_ratS (n := nth w i * dq) (by omega)
  have q3 := divInt_ratS (a := rowS M w i c.length) (b := nth w i * dq) (by omega) n2 (by omega)
  have y3 := ratioDiv_A (q1.mono (show 3 ≤ 10000 by decide)) (q2.mono (show 3 ≤ 10000 by decide)) (castNe (by omega))
  rw [← Rat.divInt_eq_div] at y3
  have y4 := ratioCmp_A (q3.mono (show 3 ≤ 10000 by decide)) (hS.mono (show 3 ≤ 10000 by decide))
  have hN : nrmR M w dq c.length (i + 1) = bif decide (nrmR M w dq c.length i < Rat.divInt (rowS M w i c.length) (nth w i * dq)) then Rat.divInt (rowS M w i c.length) (nth w i * dq) else nrmR M w dq c.length i := rfl
  have hcp := cmpR_pos (p := Rat.divInt (rowS M w i c.length) (nth w i * dq)) (q := nrmR M w dq c.length i)
  clear hnS hne hrow hb q1 q2 q3 hS
  generalize rowS M w i c.length = S0 at *
  generalize Rat.divInt S0 (nth w i * dq) = r at *
  generalize hcm : cmpR r (nrmR M w dq c.length i) = cm at *
  generalize nrmR M w dq c.length i = N0 at *
  by_cases hc : N0 < r
  · have hc2 := hcp.2 hc
    rw [decide_eq_true hc] at hN
    have hN : nrmR M w dq c.length (i + 1) = r := hN
    (repeat' (first | (with_reducible first | intro hg | refine mv (by constructor) ?_) | ((with_reducible first | refine zR ?_ ?_ | refine zW mixed ?_ ?_); exact kr) | ((with_reducible apply zK); exact rfl; exact tf) | ((with_reducible apply zCD); exact rfl) | ((with_reducible apply zCN); exact rfl) | ((with_reducible apply zC); exact rfl) | ((with_reducible refine zX ?_ ?_); exact rfl) | ((with_reducible refine zE (And.intro ?_ ?_)); exact kr) | (with_reducible refine zE ?_) | ((with_reducible apply zP); (first | exact o_indexI (j := i) (xs := w) rfl rfl (by omega) rfl | exact dp | exact oc rfl (wr1) | exact oc rfl (y1) | exact oc rfl (y2) | exact oc rfl (y3) | exact oc rfl (y4))) | ((with_reducible apply zN); exact dn) | ((with_reducible apply zA); exact da) | ((with_reducible apply zS); exact ds) | ((with_reducible apply zY); exact rfl; exact rfl; exact tf) | ((with_reducible apply zG); exact rfl; exact rfl; exact tf) | ((with_reducible apply zU); exact rfl; exact rfl) | ((with_reducible apply zD); exact rfl; exact rfl) | ((with_reducible apply zB); exact rfl; exact rfl)))
    exact ⟨i + 1, hin, by omega, (And.intro rfl (And.intro rfl (And.intro rfl (And.intro rfl (And.intro rfl (And.intro rfl trivial)))))), (And.intro rfl (And.intro rfl (And.intro rfl (And.intro (congrArg (fun f => some (Blk.mk _ (ratC f))) hN.symm) trivial))))⟩
  · have hc2 : ¬ 0 < cm := fun h => hc (hcp.1 h)
    rw [decide_eq_false hc] at hN
    have hN : nrmR M w dq c.length (i + 1) = N0 := hN
    (repeat' (first | (with_reducible first | intro hg | refine mv (by constructor) ?_) | ((with_reducible first | refine zR ?_ ?_ | refine zW mixed ?_ ?_); exact kr) | ((with_reducible apply zK); exact rfl; exact tf) | ((with_reducible apply zCD); exact rfl) | ((with_reducible apply zCN); exact rfl) | ((with_reducible apply zC); exact rfl) | ((with_reducible refine zX ?_ ?_); exact rfl) | ((with_reducible refine zE (And.intro ?_ ?_)); exact kr) | (with_reducible refine zE ?_) | ((with_reducible apply zP); (first | exact o_indexI (j := i) (xs := w) rfl rfl (by omega) rfl | exact dp | exact oc rfl (wr1) | exact oc rfl (y1) | exact oc rfl (y2) | exact oc rfl (y3) | exact oc rfl (y4))) | ((with_reducible apply zN); exact dn) | ((with_reducible apply zA); exact da) | ((with_reducible apply zS); exact ds) | ((with_reducible apply zY); exact rfl; exact rfl; exact tf) | ((with_reducible apply zG); exact rfl; exact rfl; exact tf) | ((with_reducible apply zU); exact rfl; exact rfl) | ((with_reducible apply zD); exact rfl; exact rfl) | ((with_reducible apply zB); exact rfl; exact rfl)))
    exact ⟨i + 1, hin, by omega, (And.intro rfl (And.intro rfl (And.intro rfl (And.intro rfl (And.intro rfl (And.intro rfl trivial)))))), (And.intro rfl (And.intro rfl (And.intro rfl (And.intro (congrArg (fun f => some (Blk.mk _ (ratC f))) hN.symm) trivial))))⟩
theorem qsettles_A (c : List Rg) (den : Int) (h : LoopOk c den) (s : Nat) (w : List Int) (hp : PrfOk c.length s w) : AC Tryz.prog 82 [loV c den, .agg (prfC s w)] (B (decide (nrm c den s w < 1))) := by
  have w1 := qnorm_A c den h s w hp
  have w2 := ratioInt_A 1 ⟨by decide, by decide⟩
  have q1 := nrm_ratS h hp
  have q2 := int_ratS (n := 1) (by decide)
  have w3 := ratioCmp_A (q1.mono (show 3 ≤ 10000 by decide)) (q2.mono (show 3 ≤ 10000 by decide))
  have hc := cmpR_neg (p := nrm c den s w) (q := ((1 : Int) : Rat))
  have e : decide (nrm c den s w < 1) = decide (cmpR (nrm c den s w) ((1 : Int) : Rat) < 0) := decide_eq_decide.2 hc.symm
  rw [e]
  refine ac_body Tryz.func82 rfl (by kernel_rfl) fun w0 ok => ?_; show AWp _ (ctx0 w0 ok _) _ (ARet _ _ _) (entry _)
  exact zF
end Go.Proofs.YtiabcffcbhlbiaaGreat
