/- Merged: XSi XSj. -/
import Derived.Test.YtiabcffcbhlbiaaGreatSg
set_option linter.unusedVariables false
set_option linter.unusedSimpArgs false
/- The reference's matrices. -/
namespace Go.Proofs.YtiabcffcbhlbiaaGreat
open Go.RowKit
set_option maxRecDepth 20000
set_option maxHeartbeats 8000000

section
variable {P : Program} {s : AS} {ty : TypeId} {ps : String} {af : Array Edge} {dst : Option Tmp} {k : IntKind}
theorem o_max4 {x y z u : Operand} {a b c d : Int} (hx : s.ev x = .d (.val (.int k a))) (hy : s.ev y = .d (.val (.int k b))) (hz : s.ev z = .d (.val (.int k c))) (hu : s.ev u = .d (.val (.int k d))) {ats : Array TypeId} (gd : Option (Nat × Bool)) : Does P ⟨dst, .call ⟨.builtin .max, #[x, y, z, u], ats⟩, ty, ps, af, gd⟩ s [] (.put (.d (.val (.int k (max (max (max a b) c) d))))) :=
  does_pure fun c' s' φ a' w hR hop => by
    have e1 := ge_val hR (hop x (by simp [Op.operands, Call.operands])) hx
    have e2 := ge_val hR (hop y (by simp [Op.operands, Call.operands])) hy
    have e3 := ge_val hR (hop z (by simp [Op.operands, Call.operands])) hz
    have e4 := ge_val hR (hop u (by simp [Op.operands, Call.operands])) hu
    refine ⟨_, ?_, (rep_val (ok := okOf c' φ s') (w := w)).2 rfl⟩
    have h : ∀ a b : Int, (if b > a then b else a) = max a b := fun a b => by split <;> omega
    simp [execOp, resolve, invoke, builtin, e1, e2, e3, e4, Builtin.max_, Builtin.max2, h]
theorem o_min4 {x y z u : Operand} {a b c d : Int} (hx : s.ev x = .d (.val (.int k a))) (hy : s.ev y = .d (.val (.int k b))) (hz : s.ev z = .d (.val (.int k c))) (hu : s.ev u = .d (.val (.int k d))) {ats : Array TypeId} (gd : Option (Nat × Bool)) : Does P ⟨dst, .call ⟨.builtin .min, #[x, y, z, u], ats⟩, ty, ps, af, gd⟩ s [] (.put (.d (.val (.int k (min (min (min a b) c) d))))) :=
  does_pure fun c' s' φ a' w hR hop => by
    have e1 := ge_val hR (hop x (by simp [Op.operands, Call.operands])) hx
    have e2 := ge_val hR (hop y (by simp [Op.operands, Call.operands])) hy
    have e3 := ge_val hR (hop z (by simp [Op.operands, Call.operands])) hz
    have e4 := ge_val hR (hop u (by simp [Op.operands, Call.operands])) hu
    refine ⟨_, ?_, (rep_val (ok := okOf c' φ s') (w := w)).2 rfl⟩
    have h : ∀ a b : Int, (if b < a then b else a) = min a b := fun a b => by split <;> omega
    simp [execOp, resolve, invoke, builtin, e1, e2, e3, e4, Builtin.min_, Builtin.min2, h]
end
/-- A fact that is not for omega. -/
def Kp (p : Prop) : Prop := p
theorem mxS_snoc (l : Ml) (r : List Rg) : mxS l ++ [rgV r] = mxS (l ++ [r]) := by simp [mxS]
theorem map_range_succ {α : Type} (f : Nat → α) (i : Nat) : (List.range (i + 1)).map f = (List.range i).map f ++ [f i] := by rw [List.range_succ, List.map_append]; rfl
theorem qproduct_A (A O : Ml) (hA : Sq A.length A) (hO : Sq A.length O) (h3 : A.length ≤ 3) {K : Nat} (hK : K ≤ 10000000000) (bA : BndM 10 (ent A)) (bO : BndM K (ent O)) : AC Tryz.prog 75 [mxV A, mxV O] (mxV (mkL A.length (mulM A.length (ent A) (ent O)))) := by
  obtain ⟨n, hn⟩ : ∃ n, n = A.length := ⟨_, rfl⟩
  rw [← hn] at hA hO h3 ⊢
  obtain ⟨f, hf⟩ : ∃ f : Nat → List Rg, f = fun i => lsR (mulM n (ent A) (ent O) i) n := ⟨_, rfl⟩
  have hfl0 : ∀ i, (f i).length = n := fun i => by rw [hf]; exact lsR_length _ _
  have hend : mxV (mkL n (mulM n (ent A) (ent O))) = .slice n (mxS ((List.range n).map f)) := by
    rw [hf]
    show DV.slice (mkL n _).length _ = _
    rw [show (mkL n (mulM n (ent A) (ent O))).length = n by simp [mkL]]; rfl
  rw [hend]
  clear hend
  refine ac_body Tryz.func75 rfl (by kernel_rfl) fun w0 ok => ?_; show AWp _ (ctx0 w0 ok _) _ (ARet _ _ _) (entry _)
  (repeat' (first | (with_reducible first | intro hg | refine mv (by constructor) ?_) | ((with_reducible first | refine zR ?_ ?_ | refine zW mixed ?_ ?_); exact kr) | ((with_reducible apply zK); exact rfl; exact tf) | ((with_reducible apply zCD); exact rfl) | ((with_reducible apply zCN); exact rfl) | ((with_reducible apply zC); exact rfl) | ((with_reducible refine zX ?_ ?_); exact rfl) | ((with_reducible refine zE (And.intro ?_ ?_)); exact kr) | (with_reducible refine zE ?_) | ((with_reducible apply zP); exact dp) | ((with_reducible apply zN); exact dn) | ((with_reducible apply zA); exact da) | ((with_reducible apply zS); exact ds) | ((with_reducible apply zY); exact rfl; exact rfl; exact tf) | ((with_reducible apply zG); exact rfl; exact rfl; exact tf) | ((with_reducible apply zU); exact rfl; exact rfl) | ((with_reducible apply zD); exact rfl; exact rfl) | ((with_reducible apply zB); exact rfl; exact rfl)))
  refine awp_loopL (α := Nat) (fun i => [(0, .d (mxV A)), (1, .d (mxV O)), (5, ownZ 104 1 i), (6, .d (I i))]) (fun i => ownM 104 22 (mxS ((List.range i).map f)) i) (fun i => i ≤ n) (fun i => n - i) 0 (Nat.zero_le _) (And.intro rfl (And.intro rfl (And.intro rfl (And.intro rfl trivial)))) trivial fun i hi => ?_
  by_cases hin : i < n
  rotate_left
  · obtain rfl : i = n := by omega
    have hml := mxS_len ((List.range i).map f)
    rw [List.length_map, List.length_range] at hml
    refine awp_ownZ 5 104 1 (t := 22) (mxS ((List.range i).map f)) (by omega) rfl (fun k hk => by rw [hk]; rfl) ?_
    exact zF
  obtain ⟨M, hM⟩ : ∃ M, M = mulM n (ent A) (ent O) i := ⟨_, rfl⟩
  have hfi : f i = lsR M n := by rw [hf, hM]
  rcases i with _ | i
  · (repeat' (first | (with_reducible first | intro hg | refine mv (by constructor) ?_) | ((with_reducible first | refine zR ?_ ?_ | refine zW mixed ?_ ?_); exact kr) | ((with_reducible apply zK); exact rfl; exact tf) | ((with_reducible apply zCD); exact rfl) | ((with_reducible apply zCN); exact rfl) | ((with_reducible apply zC); exact rfl) | ((with_reducible refine zX ?_ ?_); exact rfl) | ((with_reducible refine zE (And.intro ?_ ?_)); exact kr) | (with_reducible refine zE ?_) | ((with_reducible apply zP); exact dp) | ((with_reducible apply zN); (first | exact dn | exact o_makeSl (n := n) (by rw [hn]; rfl) (by omega) (by omega) (zer_rg n))) | ((with_reducible apply zA); exact da) | ((with_reducible apply zS); exact ds) | ((with_reducible apply zY); exact rfl; exact rfl; exact tf) | ((with_reducible apply zG); exact rfl; exact rfl; exact tf) | ((with_reducible apply zU); exact rfl; exact rfl) | ((with_reducible apply zD); exact rfl; exact rfl) | ((with_reducible apply zB); exact rfl; exact rfl)))
    refine awp_loopL (α := Nat) (fun j => [(0, .d (mxV A)), (1, .d (mxV O)), (5, ownZ 104 1 (0)), (6, .d (I (0 : Nat))), (7, .lsl 24 0 n 2), (8, .d (I j))]) (fun j => (24, ⟨83, rgS (rwP M n j rg0)⟩) :: ownM 104 22 (mxS ((List.range (0)).map f)) (0)) (fun j => j ≤ n) (fun j => n - j) 0 (Nat.zero_le _) (And.intro rfl (And.intro rfl (And.intro rfl (And.intro rfl (And.intro rfl (And.intro rfl trivial)))))) (And.intro (congrArg (fun l => some (Blk.mk _ (rgS l))) (rwP_zero _ _).symm) trivial) fun j hj => ?_
    by_cases hjn : j < n
    rotate_left
    · obtain rfl : j = n := by omega
      have hrow : rwP M j j rg0 = f (0) := by rw [hfi]; exact rwP_end _ _ _
      rw [hrow]
      have hml := mxS_len ((List.range (0)).map f)
      rw [List.length_map, List.length_range] at hml
      have hfl := rgS_len (f (0))
      have hfl2 := hfl0 (0)
      have hfz : DV.slice j (((rgS (f (0))).drop 0).take (j * 2)) = rgV (f (0)) := by
        rw [List.drop_zero, List.take_of_length_le (by omega)]
        show _ = DV.slice (f (0)).length _
        rw [hfl2]
      have hsn : mxS ((List.range (0)).map f) ++ [DV.slice j (((rgS (f (0))).drop 0).take (j * 2))] = mxS ((List.range (0 + 1)).map f) := by
        rw [hfz, map_range_succ f 0]; exact mxS_snoc _ _
      have hml : (mxS ((List.range (0)).map f)).length = (0) * 1 := by omega
      clear hfz hfi hfl
      (repeat' ((fail_if_success (with_reducible show AWp _ _ (.region 16 _ _) _ _)); (first | (with_reducible first | intro hg | refine mv (by constructor) ?_) | ((with_reducible first | refine zR ?_ ?_ | refine zW mixed ?_ ?_); exact kr) | ((with_reducible apply zK); exact rfl; exact tf) | ((with_reducible apply zCD); exact rfl) | ((with_reducible apply zCN); exact rfl) | ((with_reducible apply zC); exact rfl) | ((with_reducible refine zX ?_ ?_); exact rfl) | ((with_reducible refine zE (And.intro ?_ ?_)); exact kr) | (with_reducible refine zE ?_) | ((with_reducible apply zP); exact dp) | ((with_reducible apply zN); exact dn) | ((with_reducible apply zA); exact da) | ((with_reducible apply zS); exact ds) | ((with_reducible apply zY); exact rfl; exact rfl; exact tf) | ((with_reducible apply zG); exact rfl; exact rfl; exact tf) | ((with_reducible apply zU); exact rfl; exact rfl) | ((with_reducible apply zD); exact rfl; exact rfl) | ((with_reducible apply zB); exact rfl; exact rfl))))
      refine awp_freeze 24 rfl ?_
      (repeat' (first | (with_reducible first | intro hg | refine mv (by constructor) ?_) | ((with_reducible first | refine zR ?_ ?_ | refine zW mixed ?_ ?_); exact kr) | ((with_reducible apply zK); exact rfl; exact tf) | ((with_reducible apply zCD); exact rfl) | ((with_reducible apply zCN); exact rfl) | ((with_reducible apply zC); exact rfl) | ((with_reducible refine zX ?_ ?_); exact rfl) | ((with_reducible refine zE (And.intro ?_ ?_)); exact kr) | (with_reducible refine zE ?_) | ((with_reducible apply zP); exact dp) | ((with_reducible apply zN); exact dn) | ((with_reducible apply zA); (first | ((apply o_app); (case hx => exact rfl); (case hm => exact rfl); (case hy => exact .own rfl rfl); (case hty => exact rfl); (case hl => solve | exact hml | rfl); (case hcl => solve | rfl | exact hml | simp); (case hpos => omega); (case hb => omega); (case hb2 => omega); (case hnew => exact rfl)) | ((apply o_app); (case hx => exact rfl); (case hm => exact rfl); (case hy => exact .sl rfl); (case hty => exact rfl); (case hl => solve | exact hml | rfl); (case hcl => solve | rfl | exact hml | simp); (case hpos => omega); (case hb => omega); (case hb2 => omega); (case hnew => exact rfl)) | exact da)) | ((with_reducible apply zS); exact ds) | ((with_reducible apply zY); exact rfl; exact rfl; exact tf) | ((with_reducible apply zG); exact rfl; exact rfl; exact tf) | ((with_reducible apply zU); exact rfl; exact rfl) | ((with_reducible apply zD); exact rfl; exact rfl) | ((with_reducible apply zB); exact rfl; exact rfl)))
      exact ⟨0 + 1, hin, by omega, (And.intro rfl (And.intro rfl (And.intro rfl (And.intro rfl trivial)))), (And.intro (congrArg (fun l => some (Blk.mk _ l)) hsn) trivial)⟩
    obtain ⟨g, hgg⟩ : ∃ g : Nat → Rg, g = fun k => rngM (ent A (0) k) (ent O k j) := ⟨_, rfl⟩
    have hMj : M j = sumR g n := by rw [hM, hgg]; rfl
    (repeat' (first | (with_reducible first | intro hg | refine mv (by constructor) ?_) | ((with_reducible first | refine zR ?_ ?_ | refine zW mixed ?_ ?_); exact kr) | ((with_reducible apply zK); exact rfl; exact tf) | ((with_reducible apply zCD); exact rfl) | ((with_reducible apply zCN); exact rfl) | ((with_reducible apply zC); exact rfl) | ((with_reducible refine zX ?_ ?_); exact rfl) | ((with_reducible refine zE (And.intro ?_ ?_)); exact kr) | (with_reducible refine zE ?_) | ((with_reducible apply zP); exact dp) | ((with_reducible apply zN); exact dn) | ((with_reducible apply zA); exact da) | ((with_reducible apply zS); exact ds) | ((with_reducible apply zY); exact rfl; exact rfl; exact tf) | ((with_reducible apply zG); exact rfl; exact rfl; exact tf) | ((with_reducible apply zU); exact rfl; exact rfl) | ((with_reducible apply zD); exact rfl; exact rfl) | ((with_reducible apply zB); exact rfl; exact rfl)))
    refine awp_loopL (α := Nat) (fun k => [(0, .d (mxV A)), (1, .d (mxV O)), (5, ownZ 104 1 (0)), (6, .d (I (0 : Nat))), (7, .lsl 24 0 n 2), (8, .d (I j)), (9, .d (I k))]) (fun k => (24, ⟨83, rgS (rwP M n j (sumR g k))⟩) :: ownM 104 22 (mxS ((List.range (0)).map f)) (0)) (fun k => k ≤ n) (fun k => n - k) 0 (Nat.zero_le _) (And.intro rfl (And.intro rfl (And.intro rfl (And.intro rfl (And.intro rfl (And.intro rfl (And.intro rfl trivial))))))) (And.intro rfl trivial) fun k hk => ?_
    by_cases hkn : k < n
    rotate_left
    · obtain rfl : k = n := by omega
      rw [← hMj, rwP_next]
      (repeat' (first | (with_reducible first | intro hg | refine mv (by constructor) ?_) | ((with_reducible first | refine zR ?_ ?_ | refine zW mixed ?_ ?_); exact kr) | ((with_reducible apply zK); exact rfl; exact tf) | ((with_reducible apply zCD); exact rfl) | ((with_reducible apply zCN); exact rfl) | ((with_reducible apply zC); exact rfl) | ((with_reducible refine zX ?_ ?_); exact rfl) | ((with_reducible refine zE (And.intro ?_ ?_)); exact kr) | (with_reducible refine zE ?_) | ((with_reducible apply zP); exact dp) | ((with_reducible apply zN); exact dn) | ((with_reducible apply zA); exact da) | ((with_reducible apply zS); exact ds) | ((with_reducible apply zY); exact rfl; exact rfl; exact tf) | ((with_reducible apply zG); exact rfl; exact rfl; exact tf) | ((with_reducible apply zU); exact rfl; exact rfl) | ((with_reducible apply zD); exact rfl; exact rfl) | ((with_reducible apply zB); exact rfl; exact rfl)))
      exact ⟨j + 1, hjn, by omega, (And.intro rfl (And.intro rfl (And.intro rfl (And.intro rfl (And.intro rfl (And.intro rfl trivial)))))), (And.intro rfl trivial)⟩
    have hOk := hO.2 k hkn
    have hOl := hO.1
    have hAi := hA.2 (0) hin
    have b1 := bA (0) k
    have b2 := bO k j
    have m1 := mul_nat b1.1 b2.1
    have m2 := mul_nat b1.1 b2.2
    have m3 := mul_nat b1.2 b2.1
    have m4 := mul_nat b1.2 b2.2
    have hgk : g k = rngM (ent A (0) k) (ent O k j) := by rw [hgg]
    have bg : ∀ q, (g q).1.natAbs ≤ 10 * K ∧ (g q).2.natAbs ≤ 10 * K := fun q => by
      rw [hgg]
      exact rngM_bnd (bA (0) q).1 (bA (0) q).2 (bO q j).1 (bO q j).2
    have bs := sumR_bnd (f := g) (K := 10 * K) (n := k) fun q _ => bg q
    have bg := bg k
    have hk10 : k * (10 * K) ≤ 3 * (10 * K) := Nat.mul_le_mul_right _ (by omega)
    have hs : sumR g (k + 1) = ((sumR g k).1 + (g k).1, (sumR g k).2 + (g k).2) := rfl
    have hg1 : (g k).1 = min (min (min ((ent A (0) k).1 * (ent O k j).1) ((ent A (0) k).1 * (ent O k j).2)) ((ent A (0) k).2 * (ent O k j).1)) ((ent A (0) k).2 * (ent O k j).2) := by rw [hgk]; rfl
    have hg2 : (g k).2 = max (max (max ((ent A (0) k).1 * (ent O k j).1) ((ent A (0) k).1 * (ent O k j).2)) ((ent A (0) k).2 * (ent O k j).1)) ((ent A (0) k).2 * (ent O k j).2) := by rw [hgk]; rfl
    have m1 : -1000000000000 ≤ (ent A (0) k).1 * (ent O k j).1 ∧ (ent A (0) k).1 * (ent O k j).1 ≤ 1000000000000 := by omega
    have m2 : -1000000000000 ≤ (ent A (0) k).1 * (ent O k j).2 ∧ (ent A (0) k).1 * (ent O k j).2 ≤ 1000000000000 := by omega
    have m3 : -1000000000000 ≤ (ent A (0) k).2 * (ent O k j).1 ∧ (ent A (0) k).2 * (ent O k j).1 ≤ 1000000000000 := by omega
    have m4 : -1000000000000 ≤ (ent A (0) k).2 * (ent O k j).2 ∧ (ent A (0) k).2 * (ent O k j).2 ≤ 1000000000000 := by omega
    have p1 : -300000000000 ≤ (sumR g k).1 ∧ (sumR g k).1 ≤ 300000000000 := by omega
    have p2 : -300000000000 ≤ (sumR g k).2 ∧ (sumR g k).2 ≤ 300000000000 := by omega
    have r1 : -100000000000 ≤ (g k).1 ∧ (g k).1 ≤ 100000000000 := by omega
    have r2 : -100000000000 ≤ (g k).2 ∧ (g k).2 ≤ 100000000000 := by omega
    rw [hg1, hg2] at hs
    rw [hg1] at r1
    rw [hg2] at r2
    clear hg1 hg2 bg bs hk10 hgk b1 b2 bA bO hMj hgg hM
    obtain ⟨lo, hlo⟩ : ∃ lo, lo = min (min (min ((ent A (0) k).1 * (ent O k j).1) ((ent A (0) k).1 * (ent O k j).2)) ((ent A (0) k).2 * (ent O k j).1)) ((ent A (0) k).2 * (ent O k j).2) := ⟨_, rfl⟩
    obtain ⟨hi', hhi⟩ : ∃ hi', hi' = max (max (max ((ent A (0) k).1 * (ent O k j).1) ((ent A (0) k).1 * (ent O k j).2)) ((ent A (0) k).2 * (ent O k j).1)) ((ent A (0) k).2 * (ent O k j).2) := ⟨_, rfl⟩
    rw [← hlo, ← hhi] at hs
    rw [← hlo] at r1
    rw [← hhi] at r2
    have hset := fun z => rwP_set M hjn (sumR g k) z
    have hq := rwP_get M hjn (sumR g k)
    have hpl := rwP_len M n j (sumR g k)
    have hseq : rwP M n j (sumR g (k + 1)) = ((rwP M n j (sumR g k)).set j ((sumR g k).1 + lo, (sumR g k).2)).set j ((sumR g k).1 + lo, (sumR g k).2 + hi') := by
      rw [hset, hs, rwP_set M hjn]
    generalize rwP M n j (sumR g k) = W at *
    generalize sumR g k = p at *
    have hq0 : (frC (W.getD j rg0))[0]? = some (I p.1) := by rw [hq]; rfl
    have hz1 : frC (p.1 + lo, p.2) = (frC (W.getD j rg0)).set 0 (I (p.1 + lo)) := by rw [hq]; rfl
    have hl2 : j < (W.set j (p.1 + lo, p.2)).length := by rw [List.length_set]; omega
    have hgd : (W.set j (p.1 + lo, p.2)).getD j rg0 = (p.1 + lo, p.2) := by rw [List.getD_eq_getElem?_getD, List.getElem?_set_self (by omega)]; rfl
    have hq2 : (frC ((W.set j (p.1 + lo, p.2)).getD j rg0))[1]? = some (I p.2) := by rw [hgd]; rfl
    have hz2 : frC (p.1 + lo, p.2 + hi') = (frC ((W.set j (p.1 + lo, p.2)).getD j rg0)).set 1 (I (p.2 + hi')) := by rw [hgd]; rfl
    rw [hlo] at hz1 hseq
    rw [hhi] at hz2 hseq
    rw [hlo] at hz2 hl2 hq2
    have hA1 : Kp (-9223372036854775808 ≤ p.1 + lo ∧ p.1 + lo ≤ 9223372036854775807) := ⟨by omega, by omega⟩
    have hA2 : Kp (-9223372036854775808 ≤ p.2 + hi' ∧ p.2 + hi' ≤ 9223372036854775807) := ⟨by omega, by omega⟩
    rw [hlo] at hA1
    rw [hhi] at hA2
    replace m1 : Kp (-9223372036854775808 ≤ ((A.getD (0) []).getD k rg0).1 * ((O.getD k []).getD j rg0).1 ∧ ((A.getD (0) []).getD k rg0).1 * ((O.getD k []).getD j rg0).1 ≤ 9223372036854775807) := ⟨Int.le_trans (by decide) m1.1, Int.le_trans m1.2 (by decide)⟩
    replace m2 : Kp (-9223372036854775808 ≤ ((A.getD (0) []).getD k rg0).1 * ((O.getD k []).getD j rg0).2 ∧ ((A.getD (0) []).getD k rg0).1 * ((O.getD k []).getD j rg0).2 ≤ 9223372036854775807) := ⟨Int.le_trans (by decide) m2.1, Int.le_trans m2.2 (by decide)⟩
    replace m3 : Kp (-9223372036854775808 ≤ ((A.getD (0) []).getD k rg0).2 * ((O.getD k []).getD j rg0).1 ∧ ((A.getD (0) []).getD k rg0).2 * ((O.getD k []).getD j rg0).1 ≤ 9223372036854775807) := ⟨Int.le_trans (by decide) m3.1, Int.le_trans m3.2 (by decide)⟩
    replace m4 : Kp (-9223372036854775808 ≤ ((A.getD (0) []).getD k rg0).2 * ((O.getD k []).getD j rg0).2 ∧ ((A.getD (0) []).getD k rg0).2 * ((O.getD k []).getD j rg0).2 ≤ 9223372036854775807) := ⟨Int.le_trans (by decide) m4.1, Int.le_trans m4.2 (by decide)⟩
    clear hlo hhi hset hq hgd hs r1 r2 p1 p2
    (repeat' (first | (with_reducible first | intro hg | refine mv (by constructor) ?_) | ((with_reducible first | refine zR ?_ ?_ | refine zW mixed ?_ ?_); exact kr) | ((with_reducible apply zK); exact rfl; exact tf) | ((with_reducible apply zCD); exact rfl) | ((with_reducible apply zCN); exact rfl) | ((with_reducible apply zC); exact rfl) | ((with_reducible refine zX ?_ ?_); exact rfl) | ((with_reducible refine zE (And.intro ?_ ?_)); exact kr) | (with_reducible refine zE ?_) | ((with_reducible apply zP); (first | exact o_indexF [] (f := fun r => [rgV r]) (j := 0) rw1_len (by decide) rfl rfl (by omega) rfl | exact o_indexF [] (f := fun r => [rgV r]) (j := k) rw1_len (by decide) rfl rfl (by omega) rfl | exact o_indexF rg0 frC_len (by decide) rfl rfl (by omega) rfl | exact o_indexL (o := j * 2) rfl rfl (by omega) (by omega) (by omega) | exact o_min4 rfl rfl rfl rfl | exact o_max4 rfl rfl rfl rfl | exact o_mul rfl rfl (wr (by exact m1)) | exact o_mul rfl rfl (wr (by exact m2)) | exact o_mul rfl rfl (wr (by exact m3)) | exact o_mul rfl rfl (wr (by exact m4)) | exact o_add rfl rfl (wr (by exact hA1)) | exact o_add rfl rfl (wr (by exact hA2)) | exact o_loadF (v := I p.1) rg0 j 0 frC_len rfl rfl rfl (by omega) (by decide) (by exact hq0) | exact o_loadF (v := I p.2) rg0 j 1 frC_len rfl rfl rfl (by exact hl2) (by decide) (by exact hq2) | exact dp)) | ((with_reducible apply zN); exact dn) | ((with_reducible apply zA); exact da) | ((with_reducible apply zS); (first | exact o_storeF rg0 j 0 _ frC_len rfl rfl rfl rfl rfl rfl (by omega) (by decide) (by exact hz1) | exact o_storeF rg0 j 1 _ frC_len rfl rfl rfl rfl rfl rfl (by exact hl2) (by decide) (by exact hz2) | exact ds)) | ((with_reducible apply zY); exact rfl; exact rfl; exact tf) | ((with_reducible apply zG); exact rfl; exact rfl; exact tf) | ((with_reducible apply zU); exact rfl; exact rfl) | ((with_reducible apply zD); exact rfl; exact rfl) | ((with_reducible apply zB); exact rfl; exact rfl)))
    exact ⟨k + 1, hkn, by omega, (And.intro rfl (And.intro rfl (And.intro rfl (And.intro rfl (And.intro rfl (And.intro rfl (And.intro rfl trivial))))))), (And.intro (congrArg (fun l => some (Blk.mk _ (rgS l))) hseq.symm) trivial)⟩
  · (repeat' (first | (with_reducible first | intro hg | refine mv (by constructor) ?_) | ((with_reducible first | refine zR ?_ ?_ | refine zW mixed ?_ ?_); exact kr) | ((with_reducible apply zK); exact rfl; exact tf) | ((with_reducible apply zCD); exact rfl) | ((with_reducible apply zCN); exact rfl) | ((with_reducible apply zC); exact rfl) | ((with_reducible refine zX ?_ ?_); exact rfl) | ((with_reducible refine zE (And.intro ?_ ?_)); exact kr) | (with_reducible refine zE ?_) | ((with_reducible apply zP); exact dp) | ((with_reducible apply zN); (first | exact dn | exact o_makeSl (n := n) (by rw [hn]; rfl) (by omega) (by omega) (zer_rg n))) | ((with_reducible apply zA); exact da) | ((with_reducible apply zS); exact ds) | ((with_reducible apply zY); exact rfl; exact rfl; exact tf) | ((with_reducible apply zG); exact rfl; exact rfl; exact tf) | ((with_reducible apply zU); exact rfl; exact rfl) | ((with_reducible apply zD); exact rfl; exact rfl) | ((with_reducible apply zB); exact rfl; exact rfl)))
    refine awp_loopL (α := Nat) (fun j => [(0, .d (mxV A)), (1, .d (mxV O)), (5, ownZ 104 1 (i + 1)), (6, .d (I (i + 1 : Nat))), (7, .lsl 24 0 n 2), (8, .d (I j))]) (fun j => (24, ⟨83, rgS (rwP M n j rg0)⟩) :: ownM 104 22 (mxS ((List.range (i + 1)).map f)) (i + 1)) (fun j => j ≤ n) (fun j => n - j) 0 (Nat.zero_le _) (And.intro rfl (And.intro rfl (And.intro rfl (And.intro rfl (And.intro rfl (And.intro rfl trivial)))))) (And.intro (congrArg (fun l => some (Blk.mk _ (rgS l))) (rwP_zero _ _).symm) (And.intro (rfl) trivial)) fun j hj => ?_
    by_cases hjn : j < n
    rotate_left
    · obtain rfl : j = n := by omega
      have hrow : rwP M j j rg0 = f (i + 1) := by rw [hfi]; exact rwP_end _ _ _
      rw [hrow]
      have hml := mxS_len ((List.range (i + 1)).map f)
      rw [List.length_map, List.length_range] at hml
      have hfl := rgS_len (f (i + 1))
      have hfl2 := hfl0 (i + 1)
      have hfz : DV.slice j (((rgS (f (i + 1))).drop 0).take (j * 2)) = rgV (f (i + 1)) := by
        rw [List.drop_zero, List.take_of_length_le (by omega)]
        show _ = DV.slice (f (i + 1)).length _
        rw [hfl2]
      have hsn : mxS ((List.range (i + 1)).map f) ++ [DV.slice j (((rgS (f (i + 1))).drop 0).take (j * 2))] = mxS ((List.range (i + 1 + 1)).map f) := by
        rw [hfz, map_range_succ f (i + 1)]; exact mxS_snoc _ _
      have hml : (mxS ((List.range (i + 1)).map f)).length = (i + 1) * 1 := by omega
      clear hfz hfi hfl
      (repeat' ((fail_if_success (with_reducible show AWp _ _ (.region 16 _ _) _ _)); (first | (with_reducible first | intro hg | refine mv (by constructor) ?_) | ((with_reducible first | refine zR ?_ ?_ | refine zW mixed ?_ ?_); exact kr) | ((with_reducible apply zK); exact rfl; exact tf) | ((with_reducible apply zCD); exact rfl) | ((with_reducible apply zCN); exact rfl) | ((with_reducible apply zC); exact rfl) | ((with_reducible refine zX ?_ ?_); exact rfl) | ((with_reducible refine zE (And.intro ?_ ?_)); exact kr) | (with_reducible refine zE ?_) | ((with_reducible apply zP); exact dp) | ((with_reducible apply zN); exact dn) | ((with_reducible apply zA); exact da) | ((with_reducible apply zS); exact ds) | ((with_reducible apply zY); exact rfl; exact rfl; exact tf) | ((with_reducible apply zG); exact rfl; exact rfl; exact tf) | ((with_reducible apply zU); exact rfl; exact rfl) | ((with_reducible apply zD); exact rfl; exact rfl) | ((with_reducible apply zB); exact rfl; exact rfl))))
      refine awp_freeze 24 rfl ?_
      (repeat' (first | (with_reducible first | intro hg | refine mv (by constructor) ?_) | ((with_reducible first | refine zR ?_ ?_ | refine zW mixed ?_ ?_); exact kr) | ((with_reducible apply zK); exact rfl; exact tf) | ((with_reducible apply zCD); exact rfl) | ((with_reducible apply zCN); exact rfl) | ((with_reducible apply zC); exact rfl) | ((with_reducible refine zX ?_ ?_); exact rfl) | ((with_reducible refine zE (And.intro ?_ ?_)); exact kr) | (with_reducible refine zE ?_) | ((with_reducible apply zP); exact dp) | ((with_reducible apply zN); exact dn) | ((with_reducible apply zA); (first | ((apply o_app); (case hx => exact rfl); (case hm => exact rfl); (case hy => exact .own rfl rfl); (case hty => exact rfl); (case hl => solve | exact hml | rfl); (case hcl => solve | rfl | exact hml | simp); (case hpos => omega); (case hb => omega); (case hb2 => omega); (case hnew => exact rfl)) | ((apply o_app); (case hx => exact rfl); (case hm => exact rfl); (case hy => exact .sl rfl); (case hty => exact rfl); (case hl => solve | exact hml | rfl); (case hcl => solve | rfl | exact hml | simp); (case hpos => omega); (case hb => omega); (case hb2 => omega); (case hnew => exact rfl)) | exact da)) | ((with_reducible apply zS); exact ds) | ((with_reducible apply zY); exact rfl; exact rfl; exact tf) | ((with_reducible apply zG); exact rfl; exact rfl; exact tf) | ((with_reducible apply zU); exact rfl; exact rfl) | ((with_reducible apply zD); exact rfl; exact rfl) | ((with_reducible apply zB); exact rfl; exact rfl)))
      exact ⟨i + 1 + 1, hin, by omega, (And.intro rfl (And.intro rfl (And.intro rfl (And.intro rfl trivial)))), (And.intro (congrArg (fun l => some (Blk.mk _ l)) hsn) trivial)⟩
    obtain ⟨g, hgg⟩ : ∃ g : Nat → Rg, g = fun k => rngM (ent A (i + 1) k) (ent O k j) := ⟨_, rfl⟩
    have hMj : M j = sumR g n := by rw [hM, hgg]; rfl
    (repeat' (first | (with_reducible first | intro hg | refine mv (by constructor) ?_) | ((with_reducible first | refine zR ?_ ?_ | refine zW mixed ?_ ?_); exact kr) | ((with_reducible apply zK); exact rfl; exact tf) | ((with_reducible apply zCD); exact rfl) | ((with_reducible apply zCN); exact rfl) | ((with_reducible apply zC); exact rfl) | ((with_reducible refine zX ?_ ?_); exact rfl) | ((with_reducible refine zE (And.intro ?_ ?_)); exact kr) | (with_reducible refine zE ?_) | ((with_reducible apply zP); exact dp) | ((with_reducible apply zN); exact dn) | ((with_reducible apply zA); exact da) | ((with_reducible apply zS); exact ds) | ((with_reducible apply zY); exact rfl; exact rfl; exact tf) | ((with_reducible apply zG); exact rfl; exact rfl; exact tf) | ((with_reducible apply zU); exact rfl; exact rfl) | ((with_reducible apply zD); exact rfl; exact rfl) | ((with_reducible apply zB); exact rfl; exact rfl)))
    refine awp_loopL (α := Nat) (fun k => [(0, .d (mxV A)), (1, .d (mxV O)), (5, ownZ 104 1 (i + 1)), (6, .d (I (i + 1 : Nat))), (7, .lsl 24 0 n 2), (8, .d (I j)), (9, .d (I k))]) (fun k => (24, ⟨83, rgS (rwP M n j (sumR g k))⟩) :: ownM 104 22 (mxS ((List.range (i + 1)).map f)) (i + 1)) (fun k => k ≤ n) (fun k => n - k) 0 (Nat.zero_le _) (And.intro rfl (And.intro rfl (And.intro rfl (And.intro rfl (And.intro rfl (And.intro rfl (And.intro rfl trivial))))))) (And.intro rfl (And.intro rfl trivial)) fun k hk => ?_
    by_cases hkn : k < n
    rotate_left
    · obtain rfl : k = n := by omega
      rw [← hMj, rwP_next]
      (repeat' (first | (with_reducible first | intro hg | refine mv (by constructor) ?_) | ((with_reducible first | refine zR ?_ ?_ | refine zW mixed ?_ ?_); exact kr) | ((with_reducible apply zK); exact rfl; exact tf) | ((with_reducible apply zCD); exact rfl) | ((with_reducible apply zCN); exact rfl) | ((with_reducible apply zC); exact rfl) | ((with_reducible refine zX ?_ ?_); exact rfl) | ((with_reducible refine zE (And.intro ?_ ?_)); exact kr) | (with_reducible refine zE ?_) | ((with_reducible apply zP); exact dp) | ((with_reducible apply zN); exact dn) | ((with_reducible apply zA); exact da) | ((with_reducible apply zS); exact ds) | ((with_reducible apply zY); exact rfl; exact rfl; exact tf) | ((with_reducible apply zG); exact rfl; exact rfl; exact tf) | ((with_reducible apply zU); exact rfl; exact rfl) | ((with_reducible apply zD); exact rfl; exact rfl) | ((with_reducible apply zB); exact rfl; exact rfl)))
      exact ⟨j + 1, hjn, by omega, (And.intro rfl (And.intro rfl (And.intro rfl (And.intro rfl (And.intro rfl (And.intro rfl trivial)))))), (And.intro rfl (And.intro rfl trivial))⟩
    have hOk := hO.2 k hkn
    have hOl := hO.1
    have hAi := hA.2 (i + 1) hin
    have b1 := bA (i + 1) k
    have b2 := bO k j
    have m1 := mul_nat b1.1 b2.1
    have m2 := mul_nat b1.1 b2.2
    have m3 := mul_nat b1.2 b2.1
    have m4 := mul_nat b1.2 b2.2
    have hgk : g k = rngM (ent A (i + 1) k) (ent O k j) := by rw [hgg]
    have bg : ∀ q, (g q).1.natAbs ≤ 10 * K ∧ (g q).2.natAbs ≤ 10 * K := fun q => by
      rw [hgg]
      exact rngM_bnd (bA (i + 1) q).1 (bA (i + 1) q).2 (bO q j).1 (bO q j).2
    have bs := sumR_bnd (f := g) (K := 10 * K) (n := k) fun q _ => bg q
    have bg := bg k
    have hk10 : k * (10 * K) ≤ 3 * (10 * K) := Nat.mul_le_mul_right _ (by omega)
    have hs : sumR g (k + 1) = ((sumR g k).1 + (g k).1, (sumR g k).2 + (g k).2) := rfl
    have hg1 : (g k).1 = min (min (min ((ent A (i + 1) k).1 * (ent O k j).1) ((ent A (i + 1) k).1 * (ent O k j).2)) ((ent A (i + 1) k).2 * (ent O k j).1)) ((ent A (i + 1) k).2 * (ent O k j).2) := by rw [hgk]; rfl
    have hg2 : (g k).2 = max (max (max ((ent A (i + 1) k).1 * (ent O k j).1) ((ent A (i + 1) k).1 * (ent O k j).2)) ((ent A (i + 1) k).2 * (ent O k j).1)) ((ent A (i + 1) k).2 * (ent O k j).2) := by rw [hgk]; rfl
    have m1 : -1000000000000 ≤ (ent A (i + 1) k).1 * (ent O k j).1 ∧ (ent A (i + 1) k).1 * (ent O k j).1 ≤ 1000000000000 := by omega
    have m2 : -1000000000000 ≤ (ent A (i + 1) k).1 * (ent O k j).2 ∧ (ent A (i + 1) k).1 * (ent O k j).2 ≤ 1000000000000 := by omega
    have m3 : -1000000000000 ≤ (ent A (i + 1) k).2 * (ent O k j).1 ∧ (ent A (i + 1) k).2 * (ent O k j).1 ≤ 1000000000000 := by omega
    have m4 : -1000000000000 ≤ (ent A (i + 1) k).2 * (ent O k j).2 ∧ (ent A (i + 1) k).2 * (ent O k j).2 ≤ 1000000000000 := by omega
    have p1 : -300000000000 ≤ (sumR g k).1 ∧ (sumR g k).1 ≤ 300000000000 := by omega
    have p2 : -300000000000 ≤ (sumR g k).2 ∧ (sumR g k).2 ≤ 300000000000 := by omega
    have r1 : -100000000000 ≤ (g k).1 ∧ (g k).1 ≤ 100000000000 := by omega
    have r2 : -100000000000 ≤ (g k).2 ∧ (g k).2 ≤ 100000000000 := by omega
    rw [hg1, hg2] at hs
    rw [hg1] at r1
    rw [hg2] at r2
    clear hg1 hg2 bg bs hk10 hgk b1 b2 bA bO hMj hgg hM
    obtain ⟨lo, hlo⟩ : ∃ lo, lo = min (min (min ((ent A (i + 1) k).1 * (ent O k j).1) ((ent A (i + 1) k).1 * (ent O k j).2)) ((ent A (i + 1) k).2 * (ent O k j).1)) ((ent A (i + 1) k).2 * (ent O k j).2) := ⟨_, rfl⟩
    obtain ⟨hi', hhi⟩ : ∃ hi', hi' = max (max (max ((ent A (i + 1) k).1 * (ent O k j).1) ((ent A (i + 1) k).1 * (ent O k j).2)) ((ent A (i + 1) k).2 * (ent O k j).1)) ((ent A (i + 1) k).2 * (ent O k j).2) := ⟨_, rfl⟩
    rw [← hlo, ← hhi] at hs
    rw [← hlo] at r1
    rw [← hhi] at r2
    have hset := fun z => rwP_set M hjn (sumR g k) z
    have hq := rwP_get M hjn (sumR g k)
    have hpl := rwP_len M n j (sumR g k)
    have hseq : rwP M n j (sumR g (k + 1)) = ((rwP M n j (sumR g k)).set j ((sumR g k).1 + lo, (sumR g k).2)).set j ((sumR g k).1 + lo, (sumR g k).2 + hi') := by
      rw [hset, hs, rwP_set M hjn]
    generalize rwP M n j (sumR g k) = W at *
    generalize sumR g k = p at *
    have hq0 : (frC (W.getD j rg0))[0]? = some (I p.1) := by rw [hq]; rfl
    have hz1 : frC (p.1 + lo, p.2) = (frC (W.getD j rg0)).set 0 (I (p.1 + lo)) := by rw [hq]; rfl
    have hl2 : j < (W.set j (p.1 + lo, p.2)).length := by rw [List.length_set]; omega
    have hgd : (W.set j (p.1 + lo, p.2)).getD j rg0 = (p.1 + lo, p.2) := by rw [List.getD_eq_getElem?_getD, List.getElem?_set_self (by omega)]; rfl
    have hq2 : (frC ((W.set j (p.1 + lo, p.2)).getD j rg0))[1]? = some (I p.2) := by rw [hgd]; rfl
    have hz2 : frC (p.1 + lo, p.2 + hi') = (frC ((W.set j (p.1 + lo, p.2)).getD j rg0)).set 1 (I (p.2 + hi')) := by rw [hgd]; rfl
    rw [hlo] at hz1 hseq
    rw [hhi] at hz2 hseq
    rw [hlo] at hz2 hl2 hq2
    have hA1 : Kp (-9223372036854775808 ≤ p.1 + lo ∧ p.1 + lo ≤ 9223372036854775807) := ⟨by omega, by omega⟩
    have hA2 : Kp (-9223372036854775808 ≤ p.2 + hi' ∧ p.2 + hi' ≤ 9223372036854775807) := ⟨by omega, by omega⟩
    rw [hlo] at hA1
    rw [hhi] at hA2
    replace m1 : Kp (-9223372036854775808 ≤ ((A.getD (i + 1) []).getD k rg0).1 * ((O.getD k []).getD j rg0).1 ∧ ((A.getD (i + 1) []).getD k rg0).1 * ((O.getD k []).getD j rg0).1 ≤ 9223372036854775807) := ⟨Int.le_trans (by decide) m1.1, Int.le_trans m1.2 (by decide)⟩
    replace m2 : Kp (-9223372036854775808 ≤ ((A.getD (i + 1) []).getD k rg0).1 * ((O.getD k []).getD j rg0).2 ∧ ((A.getD (i + 1) []).getD k rg0).1 * ((O.getD k []).getD j rg0).2 ≤ 9223372036854775807) := ⟨Int.le_trans (by decide) m2.1, Int.le_trans m2.2 (by decide)⟩
    replace m3 : Kp (-9223372036854775808 ≤ ((A.getD (i + 1) []).getD k rg0).2 * ((O.getD k []).getD j rg0).1 ∧ ((A.getD (i + 1) []).getD k rg0).2 * ((O.getD k []).getD j rg0).1 ≤ 9223372036854775807) := ⟨Int.le_trans (by decide) m3.1, Int.le_trans m3.2 (by decide)⟩
    replace m4 : Kp (-9223372036854775808 ≤ ((A.getD (i + 1) []).getD k rg0).2 * ((O.getD k []).getD j rg0).2 ∧ ((A.getD (i + 1) []).getD k rg0).2 * ((O.getD k []).getD j rg0).2 ≤ 9223372036854775807) := ⟨Int.le_trans (by decide) m4.1, Int.le_trans m4.2 (by decide)⟩
    clear hlo hhi hset hq hgd hs r1 r2 p1 p2
    (repeat' (first | (with_reducible first | intro hg | refine mv (by constructor) ?_) | ((with_reducible first | refine zR ?_ ?_ | refine zW mixed ?_ ?_); exact kr) | ((with_reducible apply zK); exact rfl; exact tf) | ((with_reducible apply zCD); exact rfl) | ((with_reducible apply zCN); exact rfl) | ((with_reducible apply zC); exact rfl) | ((with_reducible refine zX ?_ ?_); exact rfl) | ((with_reducible refine zE (And.intro ?_ ?_)); exact kr) | (with_reducible refine zE ?_) | ((with_reducible apply zP); (first | exact o_indexF [] (f := fun r => [rgV r]) (j := i + 1) rw1_len (by decide) rfl rfl (by omega) rfl | exact o_indexF [] (f := fun r => [rgV r]) (j := k) rw1_len (by decide) rfl rfl (by omega) rfl | exact o_indexF rg0 frC_len (by decide) rfl rfl (by omega) rfl | exact o_indexL (o := j * 2) rfl rfl (by omega) (by omega) (by omega) | exact o_min4 rfl rfl rfl rfl | exact o_max4 rfl rfl rfl rfl | exact o_mul rfl rfl (wr (by exact m1)) | exact o_mul rfl rfl (wr (by exact m2)) | exact o_mul rfl rfl (wr (by exact m3)) | exact o_mul rfl rfl (wr (by exact m4)) | exact o_add rfl rfl (wr (by exact hA1)) | exact o_add rfl rfl (wr (by exact hA2)) | exact o_loadF (v := I p.1) rg0 j 0 frC_len rfl rfl rfl (by omega) (by decide) (by exact hq0) | exact o_loadF (v := I p.2) rg0 j 1 frC_len rfl rfl rfl (by exact hl2) (by decide) (by exact hq2) | exact dp)) | ((with_reducible apply zN); exact dn) | ((with_reducible apply zA); exact da) | ((with_reducible apply zS); (first | exact o_storeF rg0 j 0 _ frC_len rfl rfl rfl rfl rfl rfl (by omega) (by decide) (by exact hz1) | exact o_storeF rg0 j 1 _ frC_len rfl rfl rfl rfl rfl rfl (by exact hl2) (by decide) (by exact hz2) | exact ds)) | ((with_reducible apply zY); exact rfl; exact rfl; exact tf) | ((with_reducible apply zG); exact rfl; exact rfl; exact tf) | ((with_reducible apply zU); exact rfl; exact rfl) | ((with_reducible apply zD); exact rfl; exact rfl) | ((with_reducible apply zB); exact rfl; exact rfl)))
    exact ⟨k + 1, hkn, by omega, (And.intro rfl (And.intro rfl (And.intro rfl (And.intro rfl (And.intro rfl (And.intro rfl (And.intro rfl trivial))))))), (And.intro (congrArg (fun l => some (Blk.mk _ (rgS l))) hseq.symm) (And.intro (rfl) trivial))⟩

end Go.Proofs.YtiabcffcbhlbiaaGreat

/- The reference's matrix of a tick, and powers. -/
namespace Go.Proofs.YtiabcffcbhlbiaaGreat
open Go.RowKit
set_option maxRecDepth 20000
set_option maxHeartbeats 8000000

theorem qmatrix_A (c : List Rg) (den : Int) (h : LoopOk c den) : AC Tryz.prog 76 [loV c den] (mxV (mkL c.length (tkM c den))) := by
  obtain ⟨h1, h3, _, hd⟩ := h
  have hcp := copyRanges_A c (by omega)
  obtain ⟨f, hf⟩ : ∃ f : Nat → List Rg, f = fun i => lsR (tkM c den i) c.length := ⟨_, rfl⟩
  have hf0 : f 0 = c := by rw [hf]; exact lsR_getD c
  have hend : mxV (mkL c.length (tkM c den)) = .slice c.length (mxS ((List.range c.length).map f)) := by
    rw [hf]
    show DV.slice (mkL c.length _).length _ = _
    rw [mkL_len]; rfl
  rw [hend]
  have hs0 : [rgV c] = mxS ((List.range (0 + 1)).map f) := by
    show [rgV c] = mxS [f 0]
    rw [hf0]; rfl
  refine ac_body Tryz.func76 rfl (by kernel_rfl) fun w0 ok => ?_; show AWp _ (ctx0 w0 ok _) _ (ARet _ _ _) (entry _)
  (repeat' (first | (with_reducible first | intro hg | refine mv (by constructor) ?_) | ((with_reducible first | refine zR ?_ ?_ | refine zW mixed ?_ ?_); exact kr) | ((with_reducible apply zK); exact rfl; exact tf) | ((with_reducible apply zCD); exact rfl) | ((with_reducible apply zCN); exact rfl) | ((with_reducible apply zC); exact rfl) | ((with_reducible refine zX ?_ ?_); exact rfl) | ((with_reducible refine zE (And.intro ?_ ?_)); exact kr) | (with_reducible refine zE ?_) | ((with_reducible apply zP); (first | exact dp | exact oc rfl (hcp))) | ((with_reducible apply zN); exact dn) | ((with_reducible apply zA); exact da) | ((with_reducible apply zS); exact ds) | ((with_reducible apply zY); exact rfl; exact rfl; exact tf) | ((with_reducible apply zG); exact rfl; exact rfl; exact tf) | ((with_reducible apply zU); exact rfl; exact rfl) | ((with_reducible apply zD); exact rfl; exact rfl) | ((with_reducible apply zB); exact rfl; exact rfl)))
  refine awp_loopL (α := Nat) (fun k => [(1, .ptr 1 0), (3, .d (I c.length)), (4, .lsl (bif k == 0 then 13 else 33) 0 (k + 1) 1), (5, .d (I (k + 1 : Nat)))]) (fun k => [(1, ⟨24, [rgV c, I den]⟩), (bif k == 0 then 13 else 33, ⟨22, mxS ((List.range (k + 1)).map f)⟩)]) (fun k => k + 1 ≤ c.length) (fun k => c.length - k) 0 h1 (And.intro rfl (And.intro rfl (And.intro rfl (And.intro rfl trivial)))) (And.intro rfl (And.intro (congrArg (fun l => some (Blk.mk _ l)) hs0) trivial)) fun k hk => ?_
  by_cases hkn : k + 1 < c.length
  rotate_left
  · have hkc : k + 1 = c.length := by omega
    have hml := mxS_len ((List.range c.length).map f)
    rw [List.length_map, List.length_range] at hml
    have hfz : ∀ l : List DV, l = mxS ((List.range (k + 1)).map f) → DV.slice c.length (mxS ((List.range c.length).map f)) = .slice (k + 1) ((l.drop 0).take ((k + 1) * 1)) := fun l hl => by
      subst hl
      rw [hkc, List.drop_zero, List.take_of_length_le (by omega)]
    generalize mxS ((List.range c.length).map f) = S9 at *
    rcases k with _ | k
    · (repeat' (first | (with_reducible first | intro hg | refine mv (by constructor) ?_) | ((with_reducible first | refine zR ?_ ?_ | refine zW mixed ?_ ?_); exact kr) | ((with_reducible apply zK); exact rfl; exact tf) | ((with_reducible apply zCD); exact rfl) | ((with_reducible apply zCN); exact rfl) | ((with_reducible apply zC); exact rfl) | ((with_reducible refine zX ?_ ?_); exact rfl) | ((with_reducible refine zE (And.intro ?_ ?_)); exact kr) | (with_reducible refine zE ?_) | ((with_reducible apply zP); exact dp) | ((with_reducible apply zN); exact dn) | ((with_reducible apply zA); exact da) | ((with_reducible apply zS); exact ds) | ((with_reducible apply zY); exact rfl; exact rfl; exact tf) | ((with_reducible apply zG); exact rfl; exact rfl; exact tf) | ((with_reducible apply zU); exact rfl; exact rfl) | ((with_reducible apply zD); exact rfl; exact rfl) | ((with_reducible apply zB); exact rfl; exact rfl)))
      ((with_reducible first | apply q_retR | apply q_retN); exact rl)
      exact hfz _ rfl
    · (repeat' (first | (with_reducible first | intro hg | refine mv (by constructor) ?_) | ((with_reducible first | refine zR ?_ ?_ | refine zW mixed ?_ ?_); exact kr) | ((with_reducible apply zK); exact rfl; exact tf) | ((with_reducible apply zCD); exact rfl) | ((with_reducible apply zCN); exact rfl) | ((with_reducible apply zC); exact rfl) | ((with_reducible refine zX ?_ ?_); exact rfl) | ((with_reducible refine zE (And.intro ?_ ?_)); exact kr) | (with_reducible refine zE ?_) | ((with_reducible apply zP); exact dp) | ((with_reducible apply zN); exact dn) | ((with_reducible apply zA); exact da) | ((with_reducible apply zS); exact ds) | ((with_reducible apply zY); exact rfl; exact rfl; exact tf) | ((with_reducible apply zG); exact rfl; exact rfl; exact tf) | ((with_reducible apply zU); exact rfl; exact rfl) | ((with_reducible apply zD); exact rfl; exact rfl) | ((with_reducible apply zB); exact rfl; exact rfl)))
      ((with_reducible first | apply q_retR | apply q_retN); exact rl)
      exact hfz _ rfl
  clear hs0 hend hcp hf0
  rcases k with _ | k
  · have hz := lsR_length (fun _ => rg0) c.length
    have hrow : (lsR (fun _ => rg0) c.length).set (0) (den, den) = lsR (tkM c den (0 + 1)) c.length := by
      rw [lsR_set _ (by omega)]
      refine lsR_congr fun i hi => ?_
      show (bif i == (0) then (den, den) else rg0) = bif (0) == i then (den, den) else (0, 0)
      rw [Bool.beq_comm]
    have hml := mxS_len ((List.range (0 + 1)).map f)
    rw [List.length_map, List.length_range] at hml
    have hfk : f (0 + 1) = lsR (tkM c den (0 + 1)) c.length := by rw [hf]
    have hfl := rgS_len (f (0 + 1))
    have hfl2 : (f (0 + 1)).length = c.length := by rw [hfk]; exact lsR_length _ _
    rw [← hfk] at hrow
    have hfz : DV.slice c.length (((rgS ((lsR (fun _ => rg0) c.length).set (0) (den, den))).drop 0).take (c.length * 2)) = rgV (f (0 + 1)) := by
      rw [hrow, List.drop_zero, List.take_of_length_le (by omega)]
      show _ = DV.slice (f (0 + 1)).length _
      rw [hfl2]
    have hsn : mxS ((List.range (0 + 1)).map f) ++ [DV.slice c.length (((rgS ((lsR (fun _ => rg0) c.length).set (0) (den, den))).drop 0).take (c.length * 2))] = mxS ((List.range (0 + 1 + 1)).map f) := by
      rw [hfz, map_range_succ f (0 + 1)]; exact mxS_snoc _ _
    have hml : (mxS ((List.range (0 + 1)).map f)).length = (0 + 1) * 1 := by omega
    clear hfz hfk hfl hrow
    (repeat' ((fail_if_success (with_reducible show AWp _ _ (.region 8 _ _) _ _)); (first | (with_reducible first | intro hg | refine mv (by constructor) ?_) | ((with_reducible first | refine zR ?_ ?_ | refine zW mixed ?_ ?_); exact kr) | ((with_reducible apply zK); exact rfl; exact tf) | ((with_reducible apply zCD); exact rfl) | ((with_reducible apply zCN); exact rfl) | ((with_reducible apply zC); exact rfl) | ((with_reducible refine zX ?_ ?_); exact rfl) | ((with_reducible refine zE (And.intro ?_ ?_)); exact kr) | (with_reducible refine zE ?_) | ((with_reducible apply zP); (first | exact o_indexL (o := (0) * 2) rfl rfl (by omega) (by omega) (by omega) | exact dp)) | ((with_reducible apply zN); (first | exact dn | exact o_makeSl (n := c.length) rfl (by omega) (by omega) (zer_rg c.length))) | ((with_reducible apply zA); exact da) | ((with_reducible apply zS); (first | exact o_storeFA (f := frC) (0) (den, den) frC_len rfl rfl rfl (by omega) (by omega) | exact ds)) | ((with_reducible apply zY); exact rfl; exact rfl; exact tf) | ((with_reducible apply zG); exact rfl; exact rfl; exact tf) | ((with_reducible apply zU); exact rfl; exact rfl) | ((with_reducible apply zD); exact rfl; exact rfl) | ((with_reducible apply zB); exact rfl; exact rfl))))
    refine awp_freeze 20 rfl ?_
    (repeat' (first | (with_reducible first | intro hg | refine mv (by constructor) ?_) | ((with_reducible first | refine zR ?_ ?_ | refine zW mixed ?_ ?_); exact kr) | ((with_reducible apply zK); exact rfl; exact tf) | ((with_reducible apply zCD); exact rfl) | ((with_reducible apply zCN); exact rfl) | ((with_reducible apply zC); exact rfl) | ((with_reducible refine zX ?_ ?_); exact rfl) | ((with_reducible refine zE (And.intro ?_ ?_)); exact kr) | (with_reducible refine zE ?_) | ((with_reducible apply zP); exact dp) | ((with_reducible apply zN); exact dn) | ((with_reducible apply zA); (first | ((apply o_app); (case hx => exact rfl); (case hm => exact rfl); (case hy => exact .own rfl rfl); (case hty => exact rfl); (case hl => solve | exact hml | rfl); (case hcl => solve | rfl | exact hml | simp); (case hpos => omega); (case hb => omega); (case hb2 => omega); (case hnew => exact rfl)) | ((apply o_app); (case hx => exact rfl); (case hm => exact rfl); (case hy => exact .sl rfl); (case hty => exact rfl); (case hl => solve | exact hml | rfl); (case hcl => solve | rfl | exact hml | simp); (case hpos => omega); (case hb => omega); (case hb2 => omega); (case hnew => exact rfl)) | exact da)) | ((with_reducible apply zS); exact ds) | ((with_reducible apply zY); exact rfl; exact rfl; exact tf) | ((with_reducible apply zG); exact rfl; exact rfl; exact tf) | ((with_reducible apply zU); exact rfl; exact rfl) | ((with_reducible apply zD); exact rfl; exact rfl) | ((with_reducible apply zB); exact rfl; exact rfl)))
    exact ⟨0 + 1, by omega, by omega, (And.intro rfl (And.intro rfl (And.intro rfl (And.intro (congrArg (fun n : Int => AV.d (I n)) (by omega)) trivial)))), (And.intro rfl (And.intro (congrArg (fun l => some (Blk.mk _ l)) hsn) trivial))⟩
  · have hz := lsR_length (fun _ => rg0) c.length
    have hrow : (lsR (fun _ => rg0) c.length).set (k + 1) (den, den) = lsR (tkM c den (k + 1 + 1)) c.length := by
      rw [lsR_set _ (by omega)]
      refine lsR_congr fun i hi => ?_
      show (bif i == (k + 1) then (den, den) else rg0) = bif (k + 1) == i then (den, den) else (0, 0)
      rw [Bool.beq_comm]
    have hml := mxS_len ((List.range (k + 1 + 1)).map f)
    rw [List.length_map, List.length_range] at hml
    have hfk : f (k + 1 + 1) = lsR (tkM c den (k + 1 + 1)) c.length := by rw [hf]
    have hfl := rgS_len (f (k + 1 + 1))
    have hfl2 : (f (k + 1 + 1)).length = c.length := by rw [hfk]; exact lsR_length _ _
    rw [← hfk] at hrow
    have hfz : DV.slice c.length (((rgS ((lsR (fun _ => rg0) c.length).set (k + 1) (den, den))).drop 0).take (c.length * 2)) = rgV (f (k + 1 + 1)) := by
      rw [hrow, List.drop_zero, List.take_of_length_le (by omega)]
      show _ = DV.slice (f (k + 1 + 1)).length _
      rw [hfl2]
    have hsn : mxS ((List.range (k + 1 + 1)).map f) ++ [DV.slice c.length (((rgS ((lsR (fun _ => rg0) c.length).set (k + 1) (den, den))).drop 0).take (c.length * 2))] = mxS ((List.range (k + 1 + 1 + 1)).map f) := by
      rw [hfz, map_range_succ f (k + 1 + 1)]; exact mxS_snoc _ _
    have hml : (mxS ((List.range (k + 1 + 1)).map f)).length = (k + 1 + 1) * 1 := by omega
    clear hfz hfk hfl hrow
    (repeat' ((fail_if_success (with_reducible show AWp _ _ (.region 8 _ _) _ _)); (first | (with_reducible first | intro hg | refine mv (by constructor) ?_) | ((with_reducible first | refine zR ?_ ?_ | refine zW mixed ?_ ?_); exact kr) | ((with_reducible apply zK); exact rfl; exact tf) | ((with_reducible apply zCD); exact rfl) | ((with_reducible apply zCN); exact rfl) | ((with_reducible apply zC); exact rfl) | ((with_reducible refine zX ?_ ?_); exact rfl) | ((with_reducible refine zE (And.intro ?_ ?_)); exact kr) | (with_reducible refine zE ?_) | ((with_reducible apply zP); (first | exact o_indexL (o := (k + 1) * 2) rfl rfl (by omega) (by omega) (by omega) | exact dp)) | ((with_reducible apply zN); (first | exact dn | exact o_makeSl (n := c.length) rfl (by omega) (by omega) (zer_rg c.length))) | ((with_reducible apply zA); exact da) | ((with_reducible apply zS); (first | exact o_storeFA (f := frC) (k + 1) (den, den) frC_len rfl rfl rfl (by omega) (by omega) | exact ds)) | ((with_reducible apply zY); exact rfl; exact rfl; exact tf) | ((with_reducible apply zG); exact rfl; exact rfl; exact tf) | ((with_reducible apply zU); exact rfl; exact rfl) | ((with_reducible apply zD); exact rfl; exact rfl) | ((with_reducible apply zB); exact rfl; exact rfl))))
    refine awp_freeze 20 rfl ?_
    (repeat' (first | (with_reducible first | intro hg | refine mv (by constructor) ?_) | ((with_reducible first | refine zR ?_ ?_ | refine zW mixed ?_ ?_); exact kr) | ((with_reducible apply zK); exact rfl; exact tf) | ((with_reducible apply zCD); exact rfl) | ((with_reducible apply zCN); exact rfl) | ((with_reducible apply zC); exact rfl) | ((with_reducible refine zX ?_ ?_); exact rfl) | ((with_reducible refine zE (And.intro ?_ ?_)); exact kr) | (with_reducible refine zE ?_) | ((with_reducible apply zP); exact dp) | ((with_reducible apply zN); exact dn) | ((with_reducible apply zA); (first | ((apply o_app); (case hx => exact rfl); (case hm => exact rfl); (case hy => exact .own rfl rfl); (case hty => exact rfl); (case hl => solve | exact hml | rfl); (case hcl => solve | rfl | exact hml | simp); (case hpos => omega); (case hb => omega); (case hb2 => omega); (case hnew => exact rfl)) | ((apply o_app); (case hx => exact rfl); (case hm => exact rfl); (case hy => exact .sl rfl); (case hty => exact rfl); (case hl => solve | exact hml | rfl); (case hcl => solve | rfl | exact hml | simp); (case hpos => omega); (case hb => omega); (case hb2 => omega); (case hnew => exact rfl)) | exact da)) | ((with_reducible apply zS); exact ds) | ((with_reducible apply zY); exact rfl; exact rfl; exact tf) | ((with_reducible apply zG); exact rfl; exact rfl; exact tf) | ((with_reducible apply zU); exact rfl; exact rfl) | ((with_reducible apply zD); exact rfl; exact rfl) | ((with_reducible apply zB); exact rfl; exact rfl)))
    exact ⟨k + 1 + 1, by omega, by omega, (And.intro rfl (And.intro rfl (And.intro rfl (And.intro (congrArg (fun n : Int => AV.d (I n)) (by omega)) trivial)))), (And.intro rfl (And.intro (congrArg (fun l => some (Blk.mk _ l)) hsn) trivial))⟩
theorem qpower_A (den : Int) (hd : 1 ≤ den ∧ den ≤ 10) (s : Nat) (h : s ≤ 6) : AC Tryz.prog 125 [I den, I s] (I (den ^ s)) := by
  refine ac_body Tryz.func125 rfl (by kernel_rfl) fun w0 ok => ?_; show AWp _ (ctx0 w0 ok _) _ (ARet _ _ _) (entry _)
  (repeat' (first | (with_reducible first | intro hg | refine mv (by constructor) ?_) | ((with_reducible first | refine zR ?_ ?_ | refine zW mixed ?_ ?_); exact kr) | ((with_reducible apply zK); exact rfl; exact tf) | ((with_reducible apply zCD); exact rfl) | ((with_reducible apply zCN); exact rfl) | ((with_reducible apply zC); exact rfl) | ((with_reducible refine zX ?_ ?_); exact rfl) | ((with_reducible refine zE (And.intro ?_ ?_)); exact kr) | (with_reducible refine zE ?_) | ((with_reducible apply zP); exact dp) | ((with_reducible apply zN); exact dn) | ((with_reducible apply zA); exact da) | ((with_reducible apply zS); exact ds) | ((with_reducible apply zY); exact rfl; exact rfl; exact tf) | ((with_reducible apply zG); exact rfl; exact rfl; exact tf) | ((with_reducible apply zU); exact rfl; exact rfl) | ((with_reducible apply zD); exact rfl; exact rfl) | ((with_reducible apply zB); exact rfl; exact rfl)))
  refine awp_loopL (α := Nat) (fun k => [(0, .d (I den)), (1, .d (I s)), (5, .d (I (den ^ k))), (6, .d (I k))]) (fun _ => []) (fun k => k ≤ s) (fun k => s - k) 0 (Nat.zero_le _) (And.intro rfl (And.intro rfl (And.intro (congrArg (fun n : Int => AV.d (I n)) (Int.pow_zero _).symm) (And.intro (rfl) trivial)))) trivial fun k hk => ?_
  by_cases hlt : k < s
  · have h1 := pow_den6 hd (s := k + 1) (by omega)
    rw [Int.pow_succ] at h1
    have e : den ^ k * den = den ^ (k + 1) := (Int.pow_succ _ _).symm
    (repeat' (first | (with_reducible first | intro hg | refine mv (by constructor) ?_) | ((with_reducible first | refine zR ?_ ?_ | refine zW mixed ?_ ?_); exact kr) | ((with_reducible apply zK); exact rfl; exact tf) | ((with_reducible apply zCD); exact rfl) | ((with_reducible apply zCN); exact rfl) | ((with_reducible apply zC); exact rfl) | ((with_reducible refine zX ?_ ?_); exact rfl) | ((with_reducible refine zE (And.intro ?_ ?_)); exact kr) | (with_reducible refine zE ?_) | ((with_reducible apply zP); exact dp) | ((with_reducible apply zN); exact dn) | ((with_reducible apply zA); exact da) | ((with_reducible apply zS); exact ds) | ((with_reducible apply zY); exact rfl; exact rfl; exact tf) | ((with_reducible apply zG); exact rfl; exact rfl; exact tf) | ((with_reducible apply zU); exact rfl; exact rfl) | ((with_reducible apply zD); exact rfl; exact rfl) | ((with_reducible apply zB); exact rfl; exact rfl)))
    exact ⟨k + 1, hlt, by omega, (And.intro rfl (And.intro rfl (And.intro (congrArg (fun n : Int => AV.d (I n)) e) (And.intro (rfl) trivial)))), trivial⟩
  · obtain rfl : k = s := by omega
    exact zF
theorem qpowerOf_A (c : List Rg) (den : Int) (h : LoopOk c den) (s : Nat) (hs : s ≤ 6) : AC Tryz.prog 21 [loV c den, I s] (mxV (mkL c.length (powM c den c.length s))) := by
  have hmx := qmatrix_A c den h
  have hlo := h
  obtain ⟨h1, h3, _, hd⟩ := h
  obtain ⟨f, hf⟩ : ∃ f : Nat → List Rg, f = fun i => lsR (unM i) c.length := ⟨_, rfl⟩
  have hend : .slice c.length (mxS ((List.range c.length).map f)) = mxV (mkL c.length (powM c den c.length 0)) := by
    rw [hf]
    show _ = DV.slice (mkL c.length _).length _
    rw [mkL_len]; rfl
  refine ac_body Tryz.func21 rfl (by kernel_rfl) fun w0 ok => ?_; show AWp _ (ctx0 w0 ok _) _ (ARet _ _ _) (entry _)
  (repeat' (first | (with_reducible first | intro hg | refine mv (by constructor) ?_) | ((with_reducible first | refine zR ?_ ?_ | refine zW mixed ?_ ?_); exact kr) | ((with_reducible apply zK); exact rfl; exact tf) | ((with_reducible apply zCD); exact rfl) | ((with_reducible apply zCN); exact rfl) | ((with_reducible apply zC); exact rfl) | ((with_reducible refine zX ?_ ?_); exact rfl) | ((with_reducible refine zE (And.intro ?_ ?_)); exact kr) | (with_reducible refine zE ?_) | ((with_reducible apply zP); exact dp) | ((with_reducible apply zN); exact dn) | ((with_reducible apply zA); exact da) | ((with_reducible apply zS); exact ds) | ((with_reducible apply zY); exact rfl; exact rfl; exact tf) | ((with_reducible apply zG); exact rfl; exact rfl; exact tf) | ((with_reducible apply zU); exact rfl; exact rfl) | ((with_reducible apply zD); exact rfl; exact rfl) | ((with_reducible apply zB); exact rfl; exact rfl)))
  refine awp_loopL (α := Nat) (fun k => [(1, .d (I s)), (2, .ptr 2 0), (5, .d (I c.length)), (6, ownZ 27 1 k), (7, .d (I k))]) (fun k => (2, ⟨24, [rgV c, I den]⟩) :: ownM 27 22 (mxS ((List.range k).map f)) k) (fun k => k ≤ c.length) (fun k => c.length - k) 0 (Nat.zero_le _) (And.intro rfl (And.intro rfl (And.intro rfl (And.intro rfl (And.intro rfl trivial))))) (And.intro rfl trivial) fun k hk => ?_
  by_cases hkn : k < c.length
  · clear hend hmx hlo
    rcases k with _ | k
    · have hz := lsR_length (fun _ => rg0) c.length
      have hrow : (lsR (fun _ => rg0) c.length).set (0) (1, 1) = f (0) := by
        rw [hf, lsR_set _ (by omega)]
        refine lsR_congr fun i hi => ?_
        show (bif i == (0) then (1, 1) else rg0) = bif (0) == i then (1, 1) else (0, 0)
        rw [Bool.beq_comm]
      have hml := mxS_len ((List.range (0)).map f)
      rw [List.length_map, List.length_range] at hml
      have hfl := rgS_len (f (0))
      have hfl2 : (f (0)).length = c.length := by rw [hf]; exact lsR_length _ _
      have hfz : DV.slice c.length (((rgS ((lsR (fun _ => rg0) c.length).set (0) (1, 1))).drop 0).take (c.length * 2)) = rgV (f (0)) := by
        rw [hrow, List.drop_zero, List.take_of_length_le (by omega)]
        show _ = DV.slice (f (0)).length _
        rw [hfl2]
      have hsn : mxS ((List.range (0)).map f) ++ [DV.slice c.length (((rgS ((lsR (fun _ => rg0) c.length).set (0) (1, 1))).drop 0).take (c.length * 2))] = mxS ((List.range (0 + 1)).map f) := by
        rw [hfz, map_range_succ f (0)]; exact mxS_snoc _ _
      have hml : (mxS ((List.range (0)).map f)).length = (0) * 1 := by omega
      clear hfz hfl hrow
      (repeat' ((fail_if_success (with_reducible show AWp _ _ (.region 8 _ _) _ _)); (first | (with_reducible first | intro hg | refine mv (by constructor) ?_) | ((with_reducible first | refine zR ?_ ?_ | refine zW mixed ?_ ?_); exact kr) | ((with_reducible apply zK); exact rfl; exact tf) | ((with_reducible apply zCD); exact rfl) | ((with_reducible apply zCN); exact rfl) | ((with_reducible apply zC); exact rfl) | ((with_reducible refine zX ?_ ?_); exact rfl) | ((with_reducible refine zE (And.intro ?_ ?_)); exact kr) | (with_reducible refine zE ?_) | ((with_reducible apply zP); (first | exact o_indexL (o := (0) * 2) rfl rfl (by omega) (by omega) (by omega) | exact dp)) | ((with_reducible apply zN); (first | exact dn | exact o_makeSl (n := c.length) rfl (by omega) (by omega) (zer_rg c.length))) | ((with_reducible apply zA); exact da) | ((with_reducible apply zS); (first | exact o_storeFA (f := frC) (0) (1, 1) frC_len rfl rfl rfl (by omega) (by omega) | exact ds)) | ((with_reducible apply zY); exact rfl; exact rfl; exact tf) | ((with_reducible apply zG); exact rfl; exact rfl; exact tf) | ((with_reducible apply zU); exact rfl; exact rfl) | ((with_reducible apply zD); exact rfl; exact rfl) | ((with_reducible apply zB); exact rfl; exact rfl))))
      refine awp_freeze 19 rfl ?_
      (repeat' (first | (with_reducible first | intro hg | refine mv (by constructor) ?_) | ((with_reducible first | refine zR ?_ ?_ | refine zW mixed ?_ ?_); exact kr) | ((with_reducible apply zK); exact rfl; exact tf) | ((with_reducible apply zCD); exact rfl) | ((with_reducible apply zCN); exact rfl) | ((with_reducible apply zC); exact rfl) | ((with_reducible refine zX ?_ ?_); exact rfl) | ((with_reducible refine zE (And.intro ?_ ?_)); exact kr) | (with_reducible refine zE ?_) | ((with_reducible apply zP); exact dp) | ((with_reducible apply zN); exact dn) | ((with_reducible apply zA); (first | ((apply o_app); (case hx => exact rfl); (case hm => exact rfl); (case hy => exact .own rfl rfl); (case hty => exact rfl); (case hl => solve | exact hml | rfl); (case hcl => solve | rfl | exact hml | simp); (case hpos => omega); (case hb => omega); (case hb2 => omega); (case hnew => exact rfl)) | ((apply o_app); (case hx => exact rfl); (case hm => exact rfl); (case hy => exact .sl rfl); (case hty => exact rfl); (case hl => solve | exact hml | rfl); (case hcl => solve | rfl | exact hml | simp); (case hpos => omega); (case hb => omega); (case hb2 => omega); (case hnew => exact rfl)) | exact da)) | ((with_reducible apply zS); exact ds) | ((with_reducible apply zY); exact rfl; exact rfl; exact tf) | ((with_reducible apply zG); exact rfl; exact rfl; exact tf) | ((with_reducible apply zU); exact rfl; exact rfl) | ((with_reducible apply zD); exact rfl; exact rfl) | ((with_reducible apply zB); exact rfl; exact rfl)))
      exact ⟨0 + 1, by omega, by omega, (And.intro rfl (And.intro rfl (And.intro rfl (And.intro rfl (And.intro rfl trivial))))), (And.intro rfl (And.intro (congrArg (fun l => some (Blk.mk _ l)) hsn) trivial))⟩
    · have hz := lsR_length (fun _ => rg0) c.length
      have hrow : (lsR (fun _ => rg0) c.length).set (k + 1) (1, 1) = f (k + 1) := by
        rw [hf, lsR_set _ (by omega)]
        refine lsR_congr fun i hi => ?_
        show (bif i == (k + 1) then (1, 1) else rg0) = bif (k + 1) == i then (1, 1) else (0, 0)
        rw [Bool.beq_comm]
      have hml := mxS_len ((List.range (k + 1)).map f)
      rw [List.length_map, List.length_range] at hml
      have hfl := rgS_len (f (k + 1))
      have hfl2 : (f (k + 1)).length = c.length := by rw [hf]; exact lsR_length _ _
      have hfz : DV.slice c.length (((rgS ((lsR (fun _ => rg0) c.length).set (k + 1) (1, 1))).drop 0).take (c.length * 2)) = rgV (f (k + 1)) := by
        rw [hrow, List.drop_zero, List.take_of_length_le (by omega)]
        show _ = DV.slice (f (k + 1)).length _
        rw [hfl2]
      have hsn : mxS ((List.range (k + 1)).map f) ++ [DV.slice c.length (((rgS ((lsR (fun _ => rg0) c.length).set (k + 1) (1, 1))).drop 0).take (c.length * 2))] = mxS ((List.range (k + 1 + 1)).map f) := by
        rw [hfz, map_range_succ f (k + 1)]; exact mxS_snoc _ _
      have hml : (mxS ((List.range (k + 1)).map f)).length = (k + 1) * 1 := by omega
      clear hfz hfl hrow
      (repeat' ((fail_if_success (with_reducible show AWp _ _ (.region 8 _ _) _ _)); (first | (with_reducible first | intro hg | refine mv (by constructor) ?_) | ((with_reducible first | refine zR ?_ ?_ | refine zW mixed ?_ ?_); exact kr) | ((with_reducible apply zK); exact rfl; exact tf) | ((with_reducible apply zCD); exact rfl) | ((with_reducible apply zCN); exact rfl) | ((with_reducible apply zC); exact rfl) | ((with_reducible refine zX ?_ ?_); exact rfl) | ((with_reducible refine zE (And.intro ?_ ?_)); exact kr) | (with_reducible refine zE ?_) | ((with_reducible apply zP); (first | exact o_indexL (o := (k + 1) * 2) rfl rfl (by omega) (by omega) (by omega) | exact dp)) | ((with_reducible apply zN); (first | exact dn | exact o_makeSl (n := c.length) rfl (by omega) (by omega) (zer_rg c.length))) | ((with_reducible apply zA); exact da) | ((with_reducible apply zS); (first | exact o_storeFA (f := frC) (k + 1) (1, 1) frC_len rfl rfl rfl (by omega) (by omega) | exact ds)) | ((with_reducible apply zY); exact rfl; exact rfl; exact tf) | ((with_reducible apply zG); exact rfl; exact rfl; exact tf) | ((with_reducible apply zU); exact rfl; exact rfl) | ((with_reducible apply zD); exact rfl; exact rfl) | ((with_reducible apply zB); exact rfl; exact rfl))))
      refine awp_freeze 19 rfl ?_
      (repeat' (first | (with_reducible first | intro hg | refine mv (by constructor) ?_) | ((with_reducible first | refine zR ?_ ?_ | refine zW mixed ?_ ?_); exact kr) | ((with_reducible apply zK); exact rfl; exact tf) | ((with_reducible apply zCD); exact rfl) | ((with_reducible apply zCN); exact rfl) | ((with_reducible apply zC); exact rfl) | ((with_reducible refine zX ?_ ?_); exact rfl) | ((with_reducible refine zE (And.intro ?_ ?_)); exact kr) | (with_reducible refine zE ?_) | ((with_reducible apply zP); exact dp) | ((with_reducible apply zN); exact dn) | ((with_reducible apply zA); (first | ((apply o_app); (case hx => exact rfl); (case hm => exact rfl); (case hy => exact .own rfl rfl); (case hty => exact rfl); (case hl => solve | exact hml | rfl); (case hcl => solve | rfl | exact hml | simp); (case hpos => omega); (case hb => omega); (case hb2 => omega); (case hnew => exact rfl)) | ((apply o_app); (case hx => exact rfl); (case hm => exact rfl); (case hy => exact .sl rfl); (case hty => exact rfl); (case hl => solve | exact hml | rfl); (case hcl => solve | rfl | exact hml | simp); (case hpos => omega); (case hb => omega); (case hb2 => omega); (case hnew => exact rfl)) | exact da)) | ((with_reducible apply zS); exact ds) | ((with_reducible apply zY); exact rfl; exact rfl; exact tf) | ((with_reducible apply zG); exact rfl; exact rfl; exact tf) | ((with_reducible apply zU); exact rfl; exact rfl) | ((with_reducible apply zD); exact rfl; exact rfl) | ((with_reducible apply zB); exact rfl; exact rfl)))
      exact ⟨k + 1 + 1, by omega, by omega, (And.intro rfl (And.intro rfl (And.intro rfl (And.intro rfl (And.intro rfl trivial))))), (And.intro rfl (And.intro (congrArg (fun l => some (Blk.mk _ l)) hsn) trivial))⟩
  obtain rfl : k = c.length := by omega
  have hml := mxS_len ((List.range c.length).map f)
  rw [List.length_map, List.length_range] at hml
  refine awp_ownZ 6 27 1 (t := 22) (mxS ((List.range c.length).map f)) (by omega) rfl (fun k hk => by rw [hk]; rfl) ?_
  rw [hend]
  (repeat' (first | (with_reducible first | intro hg | refine mv (by constructor) ?_) | ((with_reducible first | refine zR ?_ ?_ | refine zW mixed ?_ ?_); exact kr) | ((with_reducible apply zK); exact rfl; exact tf) | ((with_reducible apply zCD); exact rfl) | ((with_reducible apply zCN); exact rfl) | ((with_reducible apply zC); exact rfl) | ((with_reducible refine zX ?_ ?_); exact rfl) | ((with_reducible refine zE (And.intro ?_ ?_)); exact kr) | (with_reducible refine zE ?_) | ((with_reducible apply zP); exact dp) | ((with_reducible apply zN); exact dn) | ((with_reducible apply zA); exact da) | ((with_reducible apply zS); exact ds) | ((with_reducible apply zY); exact rfl; exact rfl; exact tf) | ((with_reducible apply zG); exact rfl; exact rfl; exact tf) | ((with_reducible apply zU); exact rfl; exact rfl) | ((with_reducible apply zD); exact rfl; exact rfl) | ((with_reducible apply zB); exact rfl; exact rfl)))
  refine awp_loopL (α := Nat) (fun k => [(1, .d (I s)), (2, .ptr 2 0), (6, .d (mxV (mkL c.length (powM c den c.length k)))), (9, .d (I k))]) (fun _ => [(2, ⟨24, [rgV c, I den]⟩)]) (fun k => k ≤ s) (fun k => s - k) 0 (Nat.zero_le _) (And.intro rfl (And.intro rfl (And.intro rfl (And.intro rfl trivial)))) (And.intro rfl trivial) fun k hk => ?_
  by_cases hlt : k < s
  · have hb := powM_bnd hlo k
    have hw := qproduct_A (mkL c.length (tkM c den)) (mkL c.length (powM c den c.length k)) (by rw [mkL_len]; exact mkL_sq _ _) (by rw [mkL_len]; exact mkL_sq _ _) (by rw [mkL_len]; exact h3) (K := 30 ^ k) (Nat.le_trans (pow30 (s := k) (by omega)) (by decide)) (ent_bnd (tkM_bnd hlo)) (ent_bnd hb)
    rw [mkL_len, mul_mkL] at hw
    (repeat' (first | (with_reducible first | intro hg | refine mv (by constructor) ?_) | ((with_reducible first | refine zR ?_ ?_ | refine zW mixed ?_ ?_); exact kr) | ((with_reducible apply zK); exact rfl; exact tf) | ((with_reducible apply zCD); exact rfl) | ((with_reducible apply zCN); exact rfl) | ((with_reducible apply zC); exact rfl) | ((with_reducible refine zX ?_ ?_); exact rfl) | ((with_reducible refine zE (And.intro ?_ ?_)); exact kr) | (with_reducible refine zE ?_) | ((with_reducible apply zP); (first | exact dp | exact oc rfl (hmx) | exact oc rfl (hw))) | ((with_reducible apply zN); exact dn) | ((with_reducible apply zA); exact da) | ((with_reducible apply zS); exact ds) | ((with_reducible apply zY); exact rfl; exact rfl; exact tf) | ((with_reducible apply zG); exact rfl; exact rfl; exact tf) | ((with_reducible apply zU); exact rfl; exact rfl) | ((with_reducible apply zD); exact rfl; exact rfl) | ((with_reducible apply zB); exact rfl; exact rfl)))
    exact ⟨k + 1, hlt, by omega, (And.intro rfl (And.intro rfl (And.intro rfl (And.intro rfl trivial)))), (And.intro rfl trivial)⟩
  · obtain rfl : k = s := by omega
    exact zF

end Go.Proofs.YtiabcffcbhlbiaaGreat
