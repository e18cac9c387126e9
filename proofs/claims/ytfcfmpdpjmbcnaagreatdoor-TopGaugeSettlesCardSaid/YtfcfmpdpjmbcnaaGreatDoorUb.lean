/- Matrices: the unit matrix, products. -/
import Derived.Test.YtfcfmpdpjmbcnaaGreatDoorUy
set_option linter.unusedVariables false
set_option linter.unusedSimpArgs false
namespace Go.Proofs.YtfcfmpdpjmbcnaaGreatDoor
open Go.RowKit
set_option maxRecDepth 20000
set_option maxHeartbeats 8000000

theorem min4_A (a b c d : Int) : AC Tryz.prog 182 [isl [a, b, c, d]] (I (min (min (min a b) c) d)) := by
  refine ac_body Tryz.func182 rfl (by kernel_rfl) fun w0 ok => ?_; show AWp _ (ctx0 w0 ok _) _ (ARet _ _ _) (entry _)
  (repeat' (first | (with_reducible first | intro hg | refine mv (by constructor) ?_ | refine awp_loopU ?_ | refine awpL_step ?_) | ((with_reducible first | refine zR ?_ ?_ | refine zW mixed ?_ ?_); exact kr) | ((with_reducible apply zK); exact rfl; exact tf) | ((with_reducible apply zCD); exact rfl) | ((with_reducible apply zCN); exact rfl) | ((with_reducible apply zC); exact rfl) | ((with_reducible refine zX ?_ ?_); exact rfl) | ((with_reducible refine zE (And.intro ?_ ?_)); exact kr) | (with_reducible refine zE ?_) | ((with_reducible apply zP); (first | exact o_indexI (xs := [a, b, c, d]) (j := 0) rfl rfl (Nat.le_of_ble_eq_true rfl) rfl | exact o_indexI (xs := [a, b, c, d]) (j := 1) rfl rfl (Nat.le_of_ble_eq_true rfl) rfl | exact o_indexI (xs := [a, b, c, d]) (j := 2) rfl rfl (Nat.le_of_ble_eq_true rfl) rfl | exact o_indexI (xs := [a, b, c, d]) (j := 3) rfl rfl (Nat.le_of_ble_eq_true rfl) rfl | exact dp)) | ((with_reducible apply zN); exact dn) | ((with_reducible apply zA); exact da) | ((with_reducible apply zS); exact ds) | ((with_reducible apply zY); exact rfl; exact rfl; exact tf) | ((with_reducible apply zG); exact rfl; exact rfl; exact tf) | ((with_reducible apply zU); exact rfl; exact rfl) | ((with_reducible apply zD); exact rfl; exact rfl) | ((with_reducible apply zB); exact rfl; exact rfl)))
  ((with_reducible first | apply q_retR | apply q_retN); exact rl)
  rfl
theorem max4_A (a b c d : Int) : AC Tryz.prog 183 [isl [a, b, c, d]] (I (max (max (max a b) c) d)) := by
  refine ac_body Tryz.func183 rfl (by kernel_rfl) fun w0 ok => ?_; show AWp _ (ctx0 w0 ok _) _ (ARet _ _ _) (entry _)
  (repeat' (first | (with_reducible first | intro hg | refine mv (by constructor) ?_ | refine awp_loopU ?_ | refine awpL_step ?_) | ((with_reducible first | refine zR ?_ ?_ | refine zW mixed ?_ ?_); exact kr) | ((with_reducible apply zK); exact rfl; exact tf) | ((with_reducible apply zCD); exact rfl) | ((with_reducible apply zCN); exact rfl) | ((with_reducible apply zC); exact rfl) | ((with_reducible refine zX ?_ ?_); exact rfl) | ((with_reducible refine zE (And.intro ?_ ?_)); exact kr) | (with_reducible refine zE ?_) | ((with_reducible apply zP); (first | exact o_indexI (xs := [a, b, c, d]) (j := 0) rfl rfl (Nat.le_of_ble_eq_true rfl) rfl | exact o_indexI (xs := [a, b, c, d]) (j := 1) rfl rfl (Nat.le_of_ble_eq_true rfl) rfl | exact o_indexI (xs := [a, b, c, d]) (j := 2) rfl rfl (Nat.le_of_ble_eq_true rfl) rfl | exact o_indexI (xs := [a, b, c, d]) (j := 3) rfl rfl (Nat.le_of_ble_eq_true rfl) rfl | exact dp)) | ((with_reducible apply zN); exact dn) | ((with_reducible apply zA); exact da) | ((with_reducible apply zS); exact ds) | ((with_reducible apply zY); exact rfl; exact rfl; exact tf) | ((with_reducible apply zG); exact rfl; exact rfl; exact tf) | ((with_reducible apply zU); exact rfl; exact rfl) | ((with_reducible apply zD); exact rfl; exact rfl) | ((with_reducible apply zB); exact rfl; exact rfl)))
  ((with_reducible first | apply q_retR | apply q_retN); exact rl)
  rfl
theorem ranged_A (a b : Rg) {A B : Nat} (hAB : A * B ≤ 1000000000000) (a1 : a.1.natAbs ≤ A) (a2 : a.2.natAbs ≤ A) (b1 : b.1.natAbs ≤ B) (b2 : b.2.natAbs ≤ B) : AC Tryz.prog 171 [.agg (frC a), .agg (frC b)] (.agg (frC (rngM a b))) := by
  have h1 := mul_nat a1 b1
  have h2 := mul_nat a1 b2
  have h3 := mul_nat a2 b1
  have h4 := mul_nat a2 b2
  have k1 : -1000000000000 ≤ a.1 * b.1 ∧ a.1 * b.1 ≤ 1000000000000 := by omega
  have k2 : -1000000000000 ≤ a.1 * b.2 ∧ a.1 * b.2 ≤ 1000000000000 := by omega
  have k3 : -1000000000000 ≤ a.2 * b.1 ∧ a.2 * b.1 ≤ 1000000000000 := by omega
  have k4 : -1000000000000 ≤ a.2 * b.2 ∧ a.2 * b.2 ≤ 1000000000000 := by omega
  clear h1 h2 h3 h4 a1 a2 b1 b2 hAB
  have w1 : AC Tryz.prog 182 [.slice 4 [I (a.1 * b.1), I (a.1 * b.2), I (a.2 * b.1), I (a.2 * b.2)]] (I (rngM a b).1) := min4_A (a.1 * b.1) (a.1 * b.2) (a.2 * b.1) (a.2 * b.2)
  have w2 : AC Tryz.prog 183 [.slice 4 [I (a.1 * b.1), I (a.1 * b.2), I (a.2 * b.1), I (a.2 * b.2)]] (I (rngM a b).2) := max4_A (a.1 * b.1) (a.1 * b.2) (a.2 * b.1) (a.2 * b.2)
  refine ac_body Tryz.func171 rfl (by kernel_rfl) fun w0 ok => ?_; show AWp _ (ctx0 w0 ok _) _ (ARet _ _ _) (entry _)
  (repeat' ((fail_if_success (with_reducible show AWp _ _ (.region 2 _ _) _ _)); (first | (with_reducible first | intro hg | refine mv (by constructor) ?_) | ((with_reducible first | refine zR ?_ ?_ | refine zW mixed ?_ ?_); exact kr) | ((with_reducible apply zK); exact rfl; exact tf) | ((with_reducible apply zCD); exact rfl) | ((with_reducible apply zCN); exact rfl) | ((with_reducible apply zC); exact rfl) | ((with_reducible refine zX ?_ ?_); exact rfl) | ((with_reducible refine zE (And.intro ?_ ?_)); exact kr) | (with_reducible refine zE ?_) | ((with_reducible apply zP); exact dp) | ((with_reducible apply zN); exact dn) | ((with_reducible apply zA); exact da) | ((with_reducible apply zS); exact ds) | ((with_reducible apply zY); exact rfl; exact rfl; exact tf) | ((with_reducible apply zG); exact rfl; exact rfl; exact tf) | ((with_reducible apply zU); exact rfl; exact rfl) | ((with_reducible apply zD); exact rfl; exact rfl) | ((with_reducible apply zB); exact rfl; exact rfl))))
  refine awp_freeze 5 rfl ?_
  (repeat' (first | (with_reducible first | intro hg | refine mv (by constructor) ?_) | ((with_reducible first | refine zR ?_ ?_ | refine zW mixed ?_ ?_); exact kr) | ((with_reducible apply zK); exact rfl; exact tf) | ((with_reducible apply zCD); exact rfl) | ((with_reducible apply zCN); exact rfl) | ((with_reducible apply zC); exact rfl) | ((with_reducible refine zX ?_ ?_); exact rfl) | ((with_reducible refine zE (And.intro ?_ ?_)); exact kr) | (with_reducible refine zE ?_) | ((with_reducible apply zP); (first | exact o_sliceArr rfl (by decide) rfl | exact dp | exact oc rfl (w1) | exact oc rfl (w2))) | ((with_reducible apply zN); exact dn) | ((with_reducible apply zA); exact da) | ((with_reducible apply zS); exact ds) | ((with_reducible apply zY); exact rfl; exact rfl; exact tf) | ((with_reducible apply zG); exact rfl; exact rfl; exact tf) | ((with_reducible apply zU); exact rfl; exact rfl) | ((with_reducible apply zD); exact rfl; exact rfl) | ((with_reducible apply zB); exact rfl; exact rfl)))
  ((with_reducible first | apply q_retR | apply q_retN); exact rl)
  rfl
/-! Matrices as values. -/
abbrev mxS (A : Ml) : List DV := (A.map fun r => [rgV r]).flatten
abbrev mxV (A : Ml) : DV := .slice A.length (mxS A)
theorem mxS_len (A : Ml) : (mxS A).length = A.length := (flat_len (fun r : List Rg => [rgV r]) 1 (fun _ => rfl) A).trans (Nat.mul_one _)
theorem rw1_len (r : List Rg) : ([rgV r] : List DV).length = 1 := rfl
def mxD (f : Nat → List Rg) (n k : Nat) : List DV := (List.range k).map (fun i => rgV (f i)) ++ List.replicate (n - k) nilV
theorem mxD_len {f : Nat → List Rg} {n k : Nat} (h : k ≤ n) : (mxD f n k).length = n := by unfold mxD; simp; omega
theorem mxD_get {f : Nat → List Rg} {n k : Nat} (h : k < n) (v : DV) : (((mxD f n k).set k v).drop k)[0]? = some v := by
  have := mxD_len (f := f) (n := n) (k := k) (by omega)
  rw [List.getElem?_drop, Nat.add_zero, List.getElem?_set_self (by omega)]
theorem mxD_get' {f : Nat → List Rg} {n k : Nat} (h : k < n) (v : DV) : ((mxD f n k).set k v)[k]? = some v := by
  have := mxD_len (f := f) (n := n) (k := k) (by omega)
  rw [List.getElem?_set_self (by omega)]
theorem mxD_set {f : Nat → List Rg} {n k : Nat} (h : k < n) : (mxD f n k).set k (rgV (f k)) = mxD f n (k + 1) := by
  unfold mxD
  rw [List.set_append_right _ _ (by simp), List.length_map, List.length_range, Nat.sub_self, List.range_succ, List.map_append, List.append_assoc]
  congr 1
  obtain ⟨m, hm⟩ : ∃ m, n - k = m + 1 := ⟨n - k - 1, by omega⟩
  rw [hm, show n - (k + 1) = m by omega]; rfl
theorem mxD_end (f : Nat → List Rg) (n : Nat) : mxD f n n = mxS ((List.range n).map f) := by
  unfold mxD
  rw [Nat.sub_self, List.replicate_zero, List.append_nil]
  show _ = (((List.range n).map f).map fun r => [rgV r]).flatten
  rw [List.map_map]
  generalize List.range n = l
  induction l with
  | nil => rfl
  | cons x l ih => rw [List.map_cons, List.map_cons, List.flatten_cons, ← ih]; rfl
theorem mxD_zero (f : Nat → List Rg) (n : Nat) : mxD f n 0 = List.replicate n nilV := by unfold mxD; simp
theorem zer_nil (n : Nat) : (zeros [.slice none 0 0] (n * 1)).map DV.val = List.replicate n nilV := by
  unfold zeros
  rw [List.map_map, Nat.mul_one]
  refine List.ext_getElem (by simp) fun i h1 h2 => ?_
  simp [Nat.mod_one]
theorem zer_rg (n : Nat) : (zeros [.int .i64 0, .int .i64 0] (n * 2)).map DV.val = rgS (lsR (fun _ => rg0) n) := by
  induction n with
  | zero => rfl
  | succ n ih =>
    have e1 : n * 2 % 2 = 0 := by omega
    have e2 : (n * 2 + 1) % 2 = 1 := by omega
    unfold zeros at ih ⊢
    rw [Nat.succ_mul, List.range_succ, List.range_succ, List.map_append, List.map_append, List.map_append, List.map_append, ih, lsR_succ, ← rgS_snoc]
    simp [e1, e2]
theorem lsR_set (g : Nat → Rg) {n k : Nat} (h : k < n) (z : Rg) : (lsR g n).set k z = lsR (fun q => bif q == k then z else g q) n := by
  refine List.ext_getElem (by simp [lsR]) fun i h1 h2 => ?_
  rw [List.getElem_set]
  by_cases e : k = i
  · subst e; simp [lsR]
  · rw [if_neg e]
    simp only [lsR, List.getElem_map, List.getElem_range]
    rw [show (i == k) = false by simp; omega]; rfl
theorem unlink_row {f : Nat → List Rg} {n k : Nat} (h : k < n) (v : DV) {r : List Rg} (hr : r = f k) (hl : (f k).length = n) : ((mxD f n k).set k v).set k (.slice n ((rgS r).take (n * 2))) = mxD f n (k + 1) := by
  subst hr
  rw [List.set_set, ← mxD_set h]
  have := rgS_len (f k)
  rw [List.take_of_length_le (by omega)]
  show _ = (mxD f n k).set k (.slice (f k).length _)
  rw [hl]
theorem unit_A (n : Nat) (hn : n ≤ 1000000) : ACo Tryz.prog 142 [I n] 22 n 1 (mxS (mkL n unM)) := by
  refine aco_body Tryz.func142 rfl (by kernel_rfl) fun w0 ok => ?_; show AWp _ (ctx0 w0 ok _) _ (ARetO _ _ _ _ _) (entry _)
  (repeat' (first | (with_reducible first | intro hg | refine mv (by constructor) ?_) | ((with_reducible first | refine zR ?_ ?_ | refine zW mixed ?_ ?_); exact kr) | ((with_reducible apply zK); exact rfl; exact tf) | ((with_reducible apply zCD); exact rfl) | ((with_reducible apply zCN); exact rfl) | ((with_reducible apply zC); exact rfl) | ((with_reducible refine zX ?_ ?_); exact rfl) | ((with_reducible refine zE (And.intro ?_ ?_)); exact kr) | (with_reducible refine zE ?_) | ((with_reducible apply zP); exact dp) | ((with_reducible apply zN); (first | exact dn | exact o_makeSl rfl (by omega) (by omega) (zer_nil n))) | ((with_reducible apply zA); exact da) | ((with_reducible apply zS); exact ds) | ((with_reducible apply zY); exact rfl; exact rfl; exact tf) | ((with_reducible apply zG); exact rfl; exact rfl; exact tf) | ((with_reducible apply zU); exact rfl; exact rfl) | ((with_reducible apply zD); exact rfl; exact rfl) | ((with_reducible apply zB); exact rfl; exact rfl)))
  refine awp_loopL (α := Nat) (fun k => [(0, .d (I n)), (3, .lsl 6 0 n 1), (8, .d (I n)), (9, .d (I k))]) (fun k => [(6, ⟨22, mxD (fun i => lsR (unM i) n) n k⟩)]) (fun k => k ≤ n) (fun k => n - k) 0 (Nat.zero_le _) (And.intro rfl (And.intro rfl (And.intro rfl (And.intro rfl trivial)))) (And.intro (congrArg (fun l => some (Blk.mk _ l)) (mxD_zero _ _).symm) trivial) fun k hk => ?_
  by_cases hlt : k < n
  · have hlen := mxD_len (f := fun i => lsR (unM i) n) (n := n) (k := k) hk
    have hg := mxD_get (f := fun i => lsR (unM i) n) hlt
    have hz := lsR_length (fun _ => rg0) n
    have hrow : (lsR (fun _ => rg0) n).set k (1, 1) = lsR (unM k) n := by
      rw [lsR_set _ hlt]
      refine lsR_congr fun i hi => ?_
      unfold unM
      rw [Bool.beq_comm]
    have hul (v : DV) : ((mxD (fun i => lsR (unM i) n) n k).set k v).set k (.slice n ((rgS ((lsR (fun _ => rg0) n).set k (1, 1))).take (n * 2))) = _ := unlink_row hlt v hrow (lsR_length _ _)
    have hg' := mxD_get' (f := fun i => lsR (unM i) n) hlt
    generalize mxD (fun i => lsR (unM i) n) n k = D at *
    (repeat' ((fail_if_success (with_reducible show AWp _ _ (.region 5 _ _) _ _)); (first | (with_reducible first | intro hg | refine mv (by constructor) ?_) | ((with_reducible first | refine zR ?_ ?_ | refine zW mixed ?_ ?_); exact kr) | ((with_reducible apply zK); exact rfl; exact tf) | ((with_reducible apply zCD); exact rfl) | ((with_reducible apply zCN); exact rfl) | ((with_reducible apply zC); exact rfl) | ((with_reducible refine zX ?_ ?_); exact rfl) | ((with_reducible refine zE (And.intro ?_ ?_)); exact kr) | (with_reducible refine zE ?_) | ((with_reducible apply zP); exact dp) | ((with_reducible apply zN); exact dn) | ((with_reducible apply zA); exact da) | ((with_reducible apply zS); exact ds) | ((with_reducible apply zY); exact rfl; exact rfl; exact tf) | ((with_reducible apply zG); exact rfl; exact rfl; exact tf) | ((with_reducible apply zU); exact rfl; exact rfl) | ((with_reducible apply zD); exact rfl; exact rfl) | ((with_reducible apply zB); exact rfl; exact rfl))))
    refine awp_regionL ?_
    ((refine wpl_run (l1 := [_, _, _, _, _]) rfl ?_ ?_); exact kr; (repeat' (first | (with_reducible first | intro hg | refine mv (by constructor) ?_) | ((with_reducible first | refine zR ?_ ?_ | refine zW mixed ?_ ?_); exact kr) | ((with_reducible apply zK); exact rfl; exact tf) | ((with_reducible apply zCD); exact rfl) | ((with_reducible apply zCN); exact rfl) | ((with_reducible apply zC); exact rfl) | ((with_reducible refine zX ?_ ?_); exact rfl) | ((with_reducible refine zE (And.intro ?_ ?_)); exact kr) | (with_reducible refine zE ?_) | ((with_reducible apply zP); (first | exact o_indexL (o := k) rfl rfl (by omega) (by omega) (by omega) | exact dp)) | ((with_reducible apply zN); (first | exact dn | exact o_makeSl rfl (by omega) (by omega) (zer_rg n))) | ((with_reducible apply zA); exact da) | ((with_reducible apply zS); exact ds) | ((with_reducible apply zY); exact rfl; exact rfl; exact tf) | ((with_reducible apply zG); exact rfl; exact rfl; exact tf) | ((with_reducible apply zU); exact rfl; exact rfl) | ((with_reducible apply zD); exact rfl; exact rfl) | ((with_reducible apply zB); exact rfl; exact rfl))))
    refine wpl_turn (turns_pin 15 15 PN (by rfl) (by rfl) (by rfl) (by rfl) (by kernel_rfl)) fun x => ?_
    ((refine wpl_run (l1 := [_]) rfl ?_ ?_); exact kr; (repeat' (first | (with_reducible first | intro hg | refine mv (by constructor) ?_) | ((with_reducible first | refine zR ?_ ?_ | refine zW mixed ?_ ?_); exact kr) | ((with_reducible apply zK); exact rfl; exact tf) | ((with_reducible apply zCD); exact rfl) | ((with_reducible apply zCN); exact rfl) | ((with_reducible apply zC); exact rfl) | ((with_reducible refine zX ?_ ?_); exact rfl) | ((with_reducible refine zE (And.intro ?_ ?_)); exact kr) | (with_reducible refine zE ?_) | ((with_reducible apply zP); exact dp) | ((with_reducible apply zN); exact dn) | ((with_reducible apply zA); exact da) | ((with_reducible apply zS); (first | exact o_storeD rfl rfl rfl rfl (by omega) | exact ds)) | ((with_reducible apply zY); exact rfl; exact rfl; exact tf) | ((with_reducible apply zG); exact rfl; exact rfl; exact tf) | ((with_reducible apply zU); exact rfl; exact rfl) | ((with_reducible apply zD); exact rfl; exact rfl) | ((with_reducible apply zB); exact rfl; exact rfl))))
    refine wpl_nil ?_
    have hb1 := x.2.1
    have hb2 := x.2.2
    (repeat' ((fail_if_success (with_reducible show AWp _ _ (.region 7 _ _) _ _)); (first | (with_reducible first | intro hg | refine mv (by constructor) ?_) | ((with_reducible first | refine zR ?_ ?_ | refine zW mixed ?_ ?_); exact kr) | ((with_reducible apply zK); exact rfl; exact tf) | ((with_reducible apply zCD); exact rfl) | ((with_reducible apply zCN); exact rfl) | ((with_reducible apply zC); exact rfl) | ((with_reducible refine zX ?_ ?_); exact rfl) | ((with_reducible refine zE (And.intro ?_ ?_)); exact kr) | (with_reducible refine zE ?_) | ((with_reducible apply zP); (first | exact o_loadLk (L := PN) (sz := 2) rfl rfl (by exact hg _) rfl (by rfl) (by exact hb1) (by exact hb2) | exact o_indexL (o := k) rfl rfl (by omega) (by omega) (by omega) | exact o_indexL (o := k * 2) rfl rfl (by omega) (by omega) (by omega) | exact dp)) | ((with_reducible apply zN); exact dn) | ((with_reducible apply zA); exact da) | ((with_reducible apply zS); (first | exact o_storeFA (f := frC) k (1, 1) frC_len rfl rfl rfl (by omega) (by omega) | exact ds)) | ((with_reducible apply zY); exact rfl; exact rfl; exact tf) | ((with_reducible apply zG); exact rfl; exact rfl; exact tf) | ((with_reducible apply zU); exact rfl; exact rfl) | ((with_reducible apply zD); exact rfl; exact rfl) | ((with_reducible apply zB); exact rfl; exact rfl))))
    refine awp_turn (turns_unlink 6 k PN (by rfl) (hg' _) (by rfl) (by rfl) (by rfl) (by decide) hb1 hb2) fun _ => ?_
    (repeat' (first | (with_reducible first | intro hg | refine mv (by constructor) ?_) | ((with_reducible first | refine zR ?_ ?_ | refine zW mixed ?_ ?_); exact kr) | ((with_reducible apply zK); exact rfl; exact tf) | ((with_reducible apply zCD); exact rfl) | ((with_reducible apply zCN); exact rfl) | ((with_reducible apply zC); exact rfl) | ((with_reducible refine zX ?_ ?_); exact rfl) | ((with_reducible refine zE (And.intro ?_ ?_)); exact kr) | (with_reducible refine zE ?_) | ((with_reducible apply zP); exact dp) | ((with_reducible apply zN); exact dn) | ((with_reducible apply zA); exact da) | ((with_reducible apply zS); exact ds) | ((with_reducible apply zY); exact rfl; exact rfl; exact tf) | ((with_reducible apply zG); exact rfl; exact rfl; exact tf) | ((with_reducible apply zU); exact rfl; exact rfl) | ((with_reducible apply zD); exact rfl; exact rfl) | ((with_reducible apply zB); exact rfl; exact rfl)))
    exact ⟨k + 1, hlt, by omega, (And.intro rfl (And.intro rfl (And.intro rfl (And.intro rfl trivial)))), (And.intro (congrArg (fun l => some (Blk.mk _ l)) (hul _)) trivial)⟩
  · obtain rfl : k = n := by omega
    rw [mxD_end]
    (repeat' (first | (with_reducible first | intro hg | refine mv (by constructor) ?_) | ((with_reducible first | refine zR ?_ ?_ | refine zW mixed ?_ ?_); exact kr) | ((with_reducible apply zK); exact rfl; exact tf) | ((with_reducible apply zCD); exact rfl) | ((with_reducible apply zCN); exact rfl) | ((with_reducible apply zC); exact rfl) | ((with_reducible refine zX ?_ ?_); exact rfl) | ((with_reducible refine zE (And.intro ?_ ?_)); exact kr) | (with_reducible refine zE ?_) | ((with_reducible apply zP); exact dp) | ((with_reducible apply zN); exact dn) | ((with_reducible apply zA); exact da) | ((with_reducible apply zS); exact ds) | ((with_reducible apply zY); exact rfl; exact rfl; exact tf) | ((with_reducible apply zG); exact rfl; exact rfl; exact tf) | ((with_reducible apply zU); exact rfl; exact rfl) | ((with_reducible apply zD); exact rfl; exact rfl) | ((with_reducible apply zB); exact rfl; exact rfl)))
    ((with_reducible first | apply q_retO | apply q_retON); exact rfl; exact rfl; exact rfl)

end Go.Proofs.YtfcfmpdpjmbcnaaGreatDoor
